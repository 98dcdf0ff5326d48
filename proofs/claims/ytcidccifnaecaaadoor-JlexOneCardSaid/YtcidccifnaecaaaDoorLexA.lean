/- The scanner's pass and blanks, walked. -/
import Derived.Test.YtcidccifnaecaaaDoorLexS
import Derived.Test.YtcidccifnaecaaaDoorBase
import Derived.Test.YtcidccifnaecaaaDoorTests
import Derived.Test.YtcidccifnaecaaaDoorShelf2
namespace Go.Proofs.YtcidccifnaecaaaDoor
open Go.RowKit

/-- The scanner in memory. -/
def ScAt (W : World) (b : Nat) (x : Sc) : Prop := ∃ cur : ByteArray, cur.data.toList = x.s ∧ Blk W b 92 #[.string cur, .int .i64 x.line, .bool x.nl]
theorem ScAt.below {W W' : World} {b : Nat} {x : Sc} (h : ScAt W b x) (hb : Below W.heap.size W W') : ScAt W' b x := by
  obtain ⟨cur, h1, h2⟩ := h
  exact ⟨cur, h1, h2.keep (hb.block _ h2.lt)⟩
theorem extract_take (s : ByteArray) (n : Nat) : (s.extract 0 n).data.toList = s.data.toList.take n := by simp
theorem size_len (s : ByteArray) : s.size = s.data.toList.length := by simp
theorem extract_drop (s : ByteArray) (n : Nat) : (s.extract n s.size).data.toList = s.data.toList.drop n := by
  have : (s.data.toList.drop n).length ≤ s.size - n := by rw [size_len]; simp
  simp only [ByteArray.data_extract, Array.toList_extract, List.extract]
  exact List.take_of_length_le this

theorem sc_put {w : World} {b : Nat} {cur : ByteArray} {line line' : Int} {nl nl' : Bool} (hb : Blk w b 92 #[.string cur, .int .i64 line, .bool nl]) (cur' : ByteArray) :
    Blk (((w.setCell ⟨b, 1, none⟩ (.int .i64 line')).setCell ⟨b, 2, none⟩ (.bool nl')).setCell ⟨b, 0, none⟩ (.string cur')) b 92 #[.string cur', .int .i64 line', .bool nl'] ∧
    Turn (fun k => k = b) w (((w.setCell ⟨b, 1, none⟩ (.int .i64 line')).setCell ⟨b, 2, none⟩ (.bool nl')).setCell ⟨b, 0, none⟩ (.string cur')) := by
  refine ⟨?_, (((Turn.refl (fun k => k = b) w).setCell (p := ⟨b, 1, none⟩) (fun _ => rfl) _).setCell (p := ⟨b, 2, none⟩) (fun _ => rfl) _).setCell (p := ⟨b, 0, none⟩) (fun _ => rfl) _⟩
  have h1 := ((hb.set_ 1 (.int .i64 line')).set_ 2 (.bool nl')).set_ 0 (.string cur')
  simpa [Array.setIfInBounds] using h1

set_option maxRecDepth 100000 in
set_option maxHeartbeats 800000 in
theorem pass_calls (w : World) (b : Nat) (x : Sc) (n : Nat) (hx : ScAt w b x) (hn : n ≤ x.s.length) (hl : x.line + x.s.length ≤ 1000000) :
    Calls Tryd.prog 91 #[.pointer (some ⟨b, 0, none⟩), .int .i64 n] w fun e w' => (∃ v, e = .returned v) ∧ ScAt w' b (passF x n) ∧ Turn (fun k => k = b) w w' := by
  obtain ⟨cur, hcur, hb⟩ := hx
  have hsz : cur.size = x.s.length := by rw [size_len, hcur]
  have hns : n ≤ cur.size := by omega
  have hcnt : (x.s.take n).count 10 ≤ x.s.length := Nat.le_trans List.count_le_length (by simp; omega)
  have HC := Lib.hid (Tryd.strings_Count_one (cur.extract 0 n) 10)
  simp only [extract_take, hcur, Lib.countByte] at HC
  have c0 := hb.cell 0
  have c1 := hb.cell 1
  have c2 := hb.cell 2
  have f0 := hb.frozen 0
  have f1 := hb.frozen 1
  have f2 := hb.frozen 2
  have HB := Lib.hid hb
  have hpass : passF x n = ⟨x.s.drop n, x.line + (x.s.take n).count 10, x.nl || decide (0 < (x.s.take n).count 10)⟩ := rfl
  have HP := Lib.hid hpass
  generalize (x.s.take n).count 10 = q at HC HP hcnt
  clear hpass hb
  go_enter Tryd.func91, Tryd.ntmps91
  go_wp2_with fail
  refine (HC.out w).mono ?_
  rintro e w' ⟨rfl, rfl⟩
  have HE := Lib.hid (extract_drop cur n)
  clear hsz
  cases hnl : x.nl
  all_goals
    rw [hnl] at HB HP c2
    cases hq : decide (0 < q)
    all_goals
      have hq' : decide ((0 : Int) < (q : Int)) = decide (0 < q) := by simp
      rw [hq] at hq'
      go_wp2
      go_end0
      rw [HP.out]
      refine ⟨⟨_, rfl⟩, ⟨cur.extract n cur.size, by rw [HE.out, hcur], ?_⟩, (sc_put HB.out _).2⟩
      simp only [hq, Int.natCast_add, Bool.true_or, Bool.false_or]
      exact (sc_put HB.out _).1

end Go.Proofs.YtcidccifnaecaaaDoor
