/- The walk of HeapNone: true. -/
import Derived.Test.YtbdkbjfaialeoaaCallsA
namespace Go.Proofs.Ytbdkbjfaialeoaa
open Go.RowKit Go.Sort

theorem len_nil (w : World) : Calls Try.prog 14 #[.pointer none] w fun e w' => e = .returned (.int .i64 0) ∧ w = w' := by
  go_enter Try.func14, Try.ntmps14
  go_wp2
  go_ret
  exact ⟨rfl, rfl⟩

theorem own_nil (w : World) (p : Int) (key : ByteArray) :
    Calls Try.prog 19 #[.pointer none, .int .i64 p, .string key] w fun e w' => e = .returned (.tuple #[.agg #[.int .i64 0, .int .i64 0, .string ⟨#[]⟩], .bool false]) ∧ Below w.heap.size w w' :=
  own_out w p key none (fun w1 _ => has_nil w1 p)

set_option maxRecDepth 100000 in
set_option maxHeartbeats 4000000 in
theorem none_arg (w : World) (p : Int) (key : ByteArray) (hk : key.size ≤ maxLen) (v : Vl) :
    Calls Try.prog 10 #[.int .i64 p, .string key, .agg #[.int .i64 v.kind, .int .i64 v.n, .string v.s]] w fun e w' => e = .returned (.bool true) ∧ Below w.heap.size w w' := by
  have HK := Lib.hid hk
  clear hk
  go_enter Try.func10, Try.ntmps10
  go_wp2_with fail
  obtain ⟨w0, hw0⟩ : ∃ w0, w.alloc (.cells #[.int .i64 v.kind, .int .i64 v.n, .string v.s] 33) = w0 := ⟨_, rfl⟩
  have bv : Blk w0 w.heap.size 33 #[.int .i64 v.kind, .int .i64 v.n, .string v.s] := by rw [← hw0]; exact Blk.new _ _ _
  have hB : Below w.heap.size w w0 := by rw [← hw0]; exact (Below.refl _ _).alloc (Nat.le_refl _) _
  rw [hw0]
  clear hw0
  refine (shown_calls w0).mono ?_
  rintro e w1 ⟨rfl, hb1⟩
  replace bv := bv.keep (hb1.block _ bv.lt)
  replace hB := hB.trans (hb1.mono hB.size)
  clear hb1
  go_wp2_with fail
  refine (alloc_nil w1 ⟨0, -1, 0, 0⟩).mono ?_
  rintro e w2 ⟨rfl, hb2⟩
  replace bv := bv.keep (hb2.block _ bv.lt)
  replace hB := hB.trans (hb2.mono hB.size)
  clear hb2
  go_wp2_with fail
  refine (obj_nil w2 p).mono ?_
  rintro e w3 ⟨rfl, hb3⟩
  replace bv := bv.keep (hb3.block _ bv.lt)
  replace hB := hB.trans (hb3.mono hB.size)
  clear hb3
  go_wp2_with fail
  have hb4 : Below w3.heap.size w3 (w3.alloc (.cells #[.int .i64 0, .int .i64 0, .int .i64 0, .int .i64 0] 29)) := (Below.refl _ _).alloc (Nat.le_refl _) _
  generalize w3.alloc (.cells #[.int .i64 0, .int .i64 0, .int .i64 0, .int .i64 0] 29) = w4 at hb4 ⊢
  replace bv := bv.keep (hb4.block _ bv.lt)
  replace hB := hB.trans (hb4.mono hB.size)
  clear hb4
  refine (own_nil w4 p key).mono ?_
  rintro e w5 ⟨rfl, hb5⟩
  replace bv := bv.keep (hb5.block _ bv.lt)
  replace hB := hB.trans (hb5.mono hB.size)
  clear hb5
  go_wp2_with fail
  have b1 : Blk (w5.alloc (.cells #[.int .i64 0, .int .i64 0, .string ⟨#[]⟩] 33)) w5.heap.size 33 #[.int .i64 0, .int .i64 0, .string ⟨#[]⟩] := Blk.new _ _ _
  have hb6 : Below w5.heap.size w5 (w5.alloc (.cells #[.int .i64 0, .int .i64 0, .string ⟨#[]⟩] 33)) := (Below.refl _ _).alloc (Nat.le_refl _) _
  generalize w5.alloc (.cells #[.int .i64 0, .int .i64 0, .string ⟨#[]⟩] 33) = w6 at hb6 b1 ⊢
  replace bv := bv.keep (hb6.block _ bv.lt)
  replace hB := hB.trans (hb6.mono hB.size)
  clear hb6
  refine (get_nil w6 p key HK.out).mono ?_
  rintro e w7 ⟨rfl, hb7⟩
  rw [told_none]
  replace bv := bv.keep (hb7.block _ bv.lt)
  replace b1 := b1.keep (hb7.block _ b1.lt)
  replace hB := hB.trans (hb7.mono hB.size)
  clear hb7
  have c0 := bv.cell 0
  have c1 := bv.cell 1
  have c2 := bv.cell 2
  have l1 := bv.lt
  go_wp2_with fail
  have b2 : Blk (w7.alloc (.cells #[.int .i64 0, .int .i64 0, .string ⟨#[]⟩] 33)) w7.heap.size 33 #[.int .i64 0, .int .i64 0, .string ⟨#[]⟩] := Blk.new _ _ _
  have hb8 : Below w7.heap.size w7 (w7.alloc (.cells #[.int .i64 0, .int .i64 0, .string ⟨#[]⟩] 33)) := (Below.refl _ _).alloc (Nat.le_refl _) _
  clear c0 c1 c2 l1 bv
  generalize w7.alloc (.cells #[.int .i64 0, .int .i64 0, .string ⟨#[]⟩] 33) = w8 at hb8 b2 ⊢
  replace b1 := b1.keep (hb8.block _ b1.lt)
  replace hB := hB.trans (hb8.mono hB.size)
  clear hb8
  refine (hput_nil w8 p key v.kind v.n v.s).mono ?_
  rintro e w9 ⟨rfl, hb9⟩
  replace b1 := b1.keep (hb9.block _ b1.lt)
  replace b2 := b2.keep (hb9.block _ b2.lt)
  replace hB := hB.trans (hb9.mono hB.size)
  clear hb9
  have a0 := b1.cell 0
  have a1 := b1.cell 1
  have a2 := b1.cell 2
  have d0 := b2.cell 0
  have d1 := b2.cell 1
  have d2 := b2.cell 2
  clear b1 b2
  go_wp2_with (first | (go_at_call 18; refine (keys_nil _ p).mono ?_; rintro e w' ⟨rfl, rfl⟩))
  clear a0 a1 a2 d0 d1 d2
  refine (all_nil w9 p).mono ?_
  rintro e wA ⟨u, rfl, hu, hbA⟩
  obtain ⟨A, c, rfl⟩ := own_slice hu
  replace hB := hB.trans (hbA.mono hB.size)
  clear hbA hu
  go_wp2_with (go_at_call 14; refine (len_nil _).mono ?_; rintro e w' ⟨rfl, rfl⟩)
  go_ret
  exact ⟨rfl, hB⟩

end Go.Proofs.Ytbdkbjfaialeoaa
