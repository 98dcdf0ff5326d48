/- The document's heap: Put by a total function. -/
import Derived.Test.YtbdkbjfaialeoaaRefQ2
import Derived.Test.YtbdkbjfaialeoaaRefN
namespace Go.Proofs.Ytbdkbjfaialeoaa
open Go.RowKit Go.Sort

set_option maxHeartbeats 2000000 in
theorem rput_place (w : World) (rb len cap : Nat) (A : Option Addr) (p : Int) (key : ByteArray) (v : Vl) (hc : w.cell? ⟨rb, 0, none⟩ = some (.slice A len cap)) (hp : p < 0 ∨ len ≤ p) :
    Calls Try.prog 36 #[.pointer (some ⟨rb, 0, none⟩), .int .i64 p, .string key, .agg #[.int .i64 v.kind, .int .i64 v.n, .string v.s]] w fun e w' => e = .returned (.int .i64 70) ∧ Below w.heap.size w w' := by
  have hlt : rb < w.heap.size := World.block_lt_of_cell? w _ hc
  have HP := Lib.hid hp
  clear hp
  go_enter Try.func36, Try.ntmps36
  go_wp2_with (go_at_call 39; refine (ris_out _ rb len cap _ p (by rw [World.cell?_alloc_lt _ _ _ hlt]; exact hc) HP.out).mono ?_; rintro e w' ⟨rfl, rfl⟩)
  go_ret
  exact ⟨rfl, (Below.refl _ _).alloc (Nat.le_refl _) _⟩

set_option maxHeartbeats 2000000 in
theorem rput_bad (w : World) (rb len cap : Nat) (A : Option Addr) (p : Int) (key : ByteArray) (v : Vl) (b : Bool) (hc : w.cell? ⟨rb, 0, none⟩ = some (.slice A len cap)) (h0 : 0 ≤ p) (h1 : p < len) (hr : right v.kind v.n v.s = b)
    (hb : b = false ∨ b = true ∧ (v.kind == 5) = true ∧ (decide (v.n < 0) = true ∨ decide (v.n < 0) = false ∧ decide ((len : Int) ≤ v.n) = true)) :
    Calls Try.prog 36 #[.pointer (some ⟨rb, 0, none⟩), .int .i64 p, .string key, .agg #[.int .i64 v.kind, .int .i64 v.n, .string v.s]] w fun e w' => e = .returned (.int .i64 2) ∧ Below w.heap.size w w' := by
  have hlt : rb < w.heap.size := World.block_lt_of_cell? w _ hc
  have HR := Lib.hid hr
  have H0 := Lib.hid h0
  have H1 := Lib.hid h1
  have HBB := Lib.hid hb
  clear hr h0 h1 hb
  go_enter Try.func36, Try.ntmps36
  go_wp2_with (go_at_call 39; refine (ris_in _ rb len cap _ p (by rw [World.cell?_alloc_lt _ _ _ hlt]; exact hc) H0.out H1.out).mono ?_; rintro e w' ⟨rfl, rfl⟩)
  obtain ⟨w1, hw1⟩ : ∃ w1, w.alloc (.cells #[.int .i64 v.kind, .int .i64 v.n, .string v.s] 33) = w1 := ⟨_, rfl⟩
  have bv : Blk w1 w.heap.size 33 #[.int .i64 v.kind, .int .i64 v.n, .string v.s] := by rw [← hw1]; exact Blk.new _ _ _
  have hB1 : Below w.heap.size w w1 := by rw [← hw1]; exact (Below.refl _ _).alloc (Nat.le_refl _) _
  rw [hw1]
  clear hw1
  refine (rright_calls w1 v.kind v.n v.s).mono ?_
  rintro e w2 ⟨rfl, hb2⟩
  rw [HR.out]
  replace bv := bv.keep (hb2.block _ bv.lt)
  replace hB1 := hB1.trans (hb2.mono hB1.size)
  have hc2 : w2.cell? ⟨rb, 0, none⟩ = some (.slice A len cap) := (hB1.cell (p := ⟨rb, 0, none⟩) hlt).trans hc
  clear hb2 hc
  have b0 := bv.cell 0
  have b1 := bv.cell 1
  have b2 := bv.cell 2
  have HB := Lib.hid hB1
  have hbb := HBB.out
  clear bv hB1 HBB HR
  rcases hbb with rfl | ⟨rfl, h5, hn | ⟨hn, hn2⟩⟩
  · go_wp2
    go_region
    go_wp2
    go_ret
    exact ⟨rfl, HB.out.drew⟩
  · go_wp2
    go_region
    go_wp2
    go_ret
    exact ⟨rfl, HB.out.drew⟩
  · go_wp2
    go_region
    go_wp2
    go_ret
    exact ⟨rfl, HB.out.drew⟩

theorem rput_calls (w : World) (B rb : Nat) (F : Nat → Prop) (os : List Ob) (p : Int) (key : ByteArray) (v : Vl) (h : RHp w B rb F os) (hB : B ≤ w.heap.size) (hn : Small 100000 os) :
    Calls Try.prog 36 #[.pointer (some ⟨rb, 0, none⟩), .int .i64 p, .string key, .agg #[.int .i64 v.kind, .int .i64 v.n, .string v.s]] w fun e w' =>
      e = .returned (.int .i64 (putT os p key v).1) ∧ RGrew w B rb F (putT os p key v).2 w' := by
  obtain ⟨A, cap, hc⟩ := h.cell
  unfold putT
  by_cases hq : p < 0 ∨ os.length ≤ p
  · rw [objT_out hq]
    refine (rput_place w rb os.length cap A p key v hc hq).mono ?_
    rintro e w' ⟨rfl, hb'⟩
    exact ⟨rfl, RGrew.same h hb'⟩
  · obtain ⟨k, o, rfl, ho, hoT⟩ := objT_in hq
    rw [hoT]
    dsimp only
    rw [show ((k : Int)).toNat = k by omega]
    by_cases hr : right v.kind v.n v.s = false
    · rw [if_pos (.inl hr)]
      refine (rput_bad w rb os.length cap A k key v false hc (by omega) (by omega) hr (.inl rfl)).mono ?_
      rintro e w' ⟨rfl, hb'⟩
      exact ⟨rfl, RGrew.same h hb'⟩
    · have hr' : right v.kind v.n v.s = true := by simpa using hr
      by_cases h5 : v.kind = 5
      · by_cases hnn : v.n < 0 ∨ os.length ≤ v.n
        · rw [if_pos (.inr ⟨h5, hnn⟩)]
          refine (rput_bad w rb os.length cap A k key v true hc (by omega) (by omega) hr' (.inr ⟨rfl, by simpa using h5, ?_⟩)).mono ?_
          · by_cases h0 : v.n < 0
            · exact .inl (by simpa using h0)
            · exact .inr ⟨by simpa using h0, by simp; omega⟩
          · rintro e w' ⟨rfl, hb'⟩
            exact ⟨rfl, RGrew.same h hb'⟩
        · rw [if_neg (by rintro (x | x); exact hr x; exact hnn x.2)]
          exact rput_okref w B rb F os k o key v h hB ho hr' (hn o (List.mem_of_getElem? ho)) (by simpa using h5) (by simp; omega) (by simp; omega)
      · rw [if_neg (by rintro (x | x); exact hr x; exact h5 x.1)]
        exact rput_ok w B rb F os k o key v h hB ho hr' (hn o (List.mem_of_getElem? ho)) (by simpa using h5)

end Go.Proofs.Ytbdkbjfaialeoaa
