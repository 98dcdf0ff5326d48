/- The text of statements' lines, of a block; an expression's statement, an object: walked. -/
import Derived.Test.YtcidccifnaecaaaDoorTxt
namespace Go.Proofs.YtcidccifnaecaaaDoor
open Go.RowKit Go.Sort

/-- What the program's stmt tells of a tree. -/
def StmtT (h : Nat) (u : Tree) (i : ByteArray) : Prop := ∀ (d : Nat) (w : World) (sl : Value), Laid w → Kids w d u.l sl →
  Calls Tryd.prog 76 #[.agg #[.int .i64 u.op, .string u.s, .int .i64 u.n, sl, .int .i64 u.line], .string i] w fun e w' => e = .returned (.string ⟨(T h u i.data.toList).toArray⟩) ∧ Below w.heap.size w w'

theorem bs_size (l : List UInt8) : (⟨l.toArray⟩ : ByteArray).size = l.length := List.size_toArray ..
theorem lines_split (R : Tree → List UInt8 → List UInt8) (l : List Tree) (i : List UInt8) (k : Nat) : linesL R l i = linesL R (l.take k) i ++ linesL R (l.drop k) i := by
  unfold linesL
  rw [← List.flatMap_append, List.take_append_drop]
theorem lines_next {R : Tree → List UInt8 → List UInt8} {l : List Tree} {i : List UInt8} {k : Nat} {u : Tree} (h : l[k]? = some u) : linesL R (l.take (k + 1)) i = linesL R (l.take k) i ++ (i ++ R u i ++ [10]) := by
  unfold linesL
  rw [List.take_add_one, h, List.flatMap_append]
  simp

set_option maxRecDepth 100000 in
set_option maxHeartbeats 2000000 in
theorem lines_calls (h : Nat) (l : List Tree) (i : ByteArray) (hc : ∀ u, u ∈ l → StmtT h u i) (hT : (linesL (T h) l i.data.toList).length ≤ 140737488355328) (d : Nat) (w : World) (sl : Value) (hl : Laid w) (hk : Kids w d l sl) :
    Calls Tryd.prog 49 #[sl, .string i] w fun e w' => e = .returned (.string ⟨(linesL (T h) l i.data.toList).toArray⟩) ∧ Below w.heap.size w w' := by
  obtain ⟨hlen, A, c, rfl⟩ := hk.form
  unfold maxLen at hlen
  have HN := Lib.hid (Bld.new w)
  have HC := Lib.hid hc
  have HT := Lib.hid hT
  have HL := Lib.hid hl
  have HK := Lib.hid hk
  clear hc hT hl hk
  go_enter Tryd.func49, Tryd.ntmps49
  go_wp2
  go_loopw [10] (fun n wr => ∃ k : Nat, k ≤ l.length ∧ n = .int .i64 k ∧ Bld w (linesL (T h) (l.take k) i.data.toList) wr) (fun n _ => l.length - (intOf n).toNat)
  case atStart => exact ⟨0, by omega, rfl, HN.out⟩
  case round =>
    obtain ⟨k, hkl, rfl, hb⟩ := hrel
    have HB := Lib.hid hb
    clear hb
    by_cases hlt : k < l.length
    · have hu : l[k]? = some l[k] := List.getElem?_eq_getElem hlt
      generalize l[k] = u at hu
      obtain ⟨p, su, d1, hd1, rfl, hpu, hku, _⟩ := HK.out.at_ hu
      obtain ⟨_, A3, c3, rfl⟩ := hku.form
      have HCU := Lib.hid (HC.out u (List.mem_of_getElem? hu))
      have HKU := Lib.hid hku
      have HNX := Lib.hid (lines_next (R := T h) (i := i.data.toList) hu)
      have hroom : (linesL (T h) (l.take (k + 1)) i.data.toList).length ≤ 140737488355328 := by
        have h1 := congrArg List.length (lines_split (T h) l i.data.toList (k + 1))
        rw [List.length_append] at h1
        have := HT.out
        omega
      rw [HNX.out, List.length_append] at hroom
      have HR := Lib.hid hroom
      obtain ⟨a0, a1, a2, a3, a4⟩ := hpu.below HB.out.low
      clear hu hpu hku hroom
      go_wp2_with fail
      have hb8 : Below wr.heap.size wr (wr.alloc (.cells #[.int .i64 u.op, .string u.s, .int .i64 u.n, .slice A3 u.l.length c3, .int .i64 u.line] 24)) := (Below.refl _ _).alloc (Nat.le_refl _) _
      generalize wr.alloc (.cells #[.int .i64 u.op, .string u.s, .int .i64 u.n, .slice A3 u.l.length c3, .int .i64 u.line] 24) = w8 at hb8 ⊢
      have HB8 := Lib.hid (HB.out.below hb8)
      clear hb8 a0 a1 a2 a3 a4
      refine (HCU.out d1 w8 _ (HL.out.below HB8.out.low) (HKU.out.below HB8.out.low)).mono ?_
      rintro e w9 ⟨rfl, hb9⟩
      have HB9 := Lib.hid (HB8.out.below hb9)
      clear hb9
      have HJ0 := Lib.hid (fun w5 : World => join_at w5 [i, ⟨(T h u i.data.toList).toArray⟩, ⟨#[10]⟩] (by simp) (by have := HR.out; simp only [List.map_cons, List.map_nil, List.flatten_cons, List.flatten_nil, List.append_nil] at this ⊢; rw [List.append_assoc] at this; omega))
      have hfe : (([i, ⟨(T h u i.data.toList).toArray⟩, ⟨#[10]⟩] : List ByteArray).map (·.data.toList)).flatten = i.data.toList ++ T h u i.data.toList ++ [10] := by simp
      rw [hfe] at HJ0
      have HR2 := Lib.hid (show (linesL (T h) (l.take k) i.data.toList).length + (⟨(i.data.toList ++ T h u i.data.toList ++ [10]).toArray⟩ : ByteArray).size ≤ 140737488355328 from by rw [bs_size]; exact HR.out)
      clear hfe
      generalize i.data.toList ++ T h u i.data.toList ++ [10] = Y at HJ0 HR2 HNX
      go_wp2_with fail
      refine (HJ0.out w9).mono ?_
      rintro e w5 ⟨rfl, hb5⟩
      have HB5 := Lib.hid (HB9.out.below hb5)
      clear hb5 HJ0
      go_wp2_with fail
      refine (HB5.out.text ⟨Y.toArray⟩ HR2.out).mono ?_
      rintro e w6 ⟨⟨v, rfl⟩, hb6⟩
      have HB6 := Lib.hid hb6
      clear hb6
      go_wp2
      go_roundw
      case rel => exact ⟨k + 1, by omega, by go_num, by rw [HNX.out]; exact HB6.out⟩
      case measure => simp [intOf]; omega
    · obtain rfl : k = l.length := by omega
      have hdd : decide ((l.length : Int) < (l.length : Int)) = false := by simp
      have HE : Hid (linesL (T h) (l.take l.length) i.data.toList = linesL (T h) l i.data.toList) := Lib.hid (by rw [List.take_length])
      go_wp2_with fail
      refine HB.out.told.mono ?_
      rintro e w3 ⟨rfl, hb3⟩
      have HB3 := Lib.hid hb3
      clear hb3
      go_wp2
      go_ret
      exact ⟨by rw [← HE.out]; rfl, HB3.out⟩

end Go.Proofs.YtcidccifnaecaaaDoor
