/- shown: the law's own head, true. -/
import Derived.Test.YtbdkbjfaialeoaaGet
namespace Go.Proofs.Ytbdkbjfaialeoaa
open Go.RowKit Go.Sort

theorem tied4 : Tied first4 := by
  intro i o h
  match i, h with
  | 0, h => simp [first4] at h; subst h; simp [Ob.fresh]
  | 1, h => simp [first4] at h; subst h; simp [Ob.fresh, ob1, Ob.put]
  | 2, h => simp [first4] at h; subst h; simp [Ob.fresh]
  | 3, h => simp [first4] at h; subst h; simp [Ob.fresh]
  | i + 4, h => simp [first4] at h

theorem chain4 : Chain first4 ((2 : Nat) : Int) [2, 1, 0] :=
  .step (o := Ob.fresh ⟨2, 1, -1, 0⟩) rfl (.step (p := 1) (o := ob1) rfl (.step (p := 0) (o := Ob.fresh ⟨0, -1, 0, 0⟩) rfl (.stop (.inl (by decide)))))

set_option maxHeartbeats 2000000 in
theorem shown_calls (w : World) : Calls Try.prog 11 #[] w fun e w' => e = .returned (.bool true) ∧ Below w.heap.size w w' := by
  go_enter Try.func11, Try.ntmps11
  go_wp2_with fail
  refine (new_calls w).mono ?_
  rintro e w1 ⟨rfl, F, hp, hB, hF⟩
  go_wp2_with fail
  refine (get_calls w1 w.heap.size w.heap.size F first4 (2 : Nat) [2, 1, 0] ⟨#[99, 97, 108, 108]⟩ hp tied4 chain4 (by simp [maxLen, ByteArray.size])).mono ?_
  rintro e w2 ⟨rfl, hB2⟩
  have e1 : told ([2, 1, 0].findSome? fun i => (first4[i]?).bind fun o => o.vals (⟨#[99, 97, 108, 108]⟩ : ByteArray).data.toList) = .tuple #[.agg #[.int .i64 5, .int .i64 2, .string ⟨#[]⟩], .bool true] := rfl
  rw [e1]
  clear e1
  have hp2 := hp.below hB2
  have hB02 : Below w.heap.size w w2 := hB.trans (hB2.mono hB.size)
  have hs2 := hB02.size
  have HP2 := Lib.hid hp2
  have HFb : Hid (∀ k, F k → k < w2.heap.size) := fun k hk => (hp2.foot k hk).2
  clear hp hp2 hB2 hB
  go_wp2_with fail
  obtain ⟨w3, hw3⟩ : ∃ w3, w2.alloc (.cells #[.int .i64 5, .int .i64 2, .string ⟨#[]⟩] 33) = w3 := ⟨_, rfl⟩
  have hv3 : Blk w3 w2.heap.size 33 #[.int .i64 5, .int .i64 2, .string ⟨#[]⟩] := by rw [← hw3]; exact Blk.new _ _ _
  have hB3 : Below w2.heap.size w2 w3 := by rw [← hw3]; exact (Below.refl _ _).alloc (Nat.le_refl _) _
  rw [hw3]
  clear hw3
  have HP3 := Lib.hid (HP2.out.below hB3)
  clear HP2
  refine (own_in w3 w.heap.size w.heap.size F first4 2 (Ob.fresh ⟨2, 1, -1, 0⟩) ⟨#[99, 97, 108, 108]⟩ HP3.out rfl (by simp [maxLen, ByteArray.size])).mono ?_
  rintro e w4 ⟨rfl, hB4⟩
  have e1 : told ((Ob.fresh ⟨2, 1, -1, 0⟩).vals (⟨#[99, 97, 108, 108]⟩ : ByteArray).data.toList) = .tuple #[.agg #[.int .i64 0, .int .i64 0, .string ⟨#[]⟩], .bool false] := rfl
  rw [e1]
  clear e1
  have hv4 := hv3.keep (hB4.block _ hv3.lt)
  have HP4 := Lib.hid (HP3.out.below hB4)
  have hB04 : Below w.heap.size w w4 := hB02.trans ((hB3.trans (hB4.mono hB3.size)).mono hs2)
  have hs4 := hB04.size
  clear HP3 hB4 hv3 hB3 hB02
  go_wp2_with fail
  obtain ⟨w5, hw5⟩ : ∃ w5, w4.alloc (.cells #[.int .i64 0, .int .i64 0, .string ⟨#[]⟩] 33) = w5 := ⟨_, rfl⟩
  have hB5 : Below w4.heap.size w4 w5 := by rw [← hw5]; exact (Below.refl _ _).alloc (Nat.le_refl _) _
  rw [hw5]
  clear hw5
  have hv5 := hv4.keep (hB5.block _ hv4.lt)
  have HP5 := Lib.hid (HP4.out.below hB5)
  have hB05 : Below w.heap.size w w5 := hB04.trans (hB5.mono hs4)
  have hs5 := hB05.size
  clear HP4 hv4 hB5 hB04
  refine (alloc_ok w5 w.heap.size w.heap.size F first4 ⟨9, 1, 0, 0⟩ HP5.out hs5 (by decide) (.inr ⟨by decide, by decide⟩)).mono ?_
  rintro e w6 ⟨rfl, F6, hp6, hT6, hF6⟩
  have hFv : ¬ F w2.heap.size := fun hf => Nat.lt_irrefl _ (HFb.out _ hf)
  have hv6 := hv5.turn hT6 hFv
  obtain ⟨A6, c6, hc6⟩ := hp6.cell
  have hB06 : Below w.heap.size w w6 := hB05.trans (hT6.below hs5 hF)
  have v0 := hv6.cell 0
  have v1 := hv6.cell 1
  have v2 := hv6.cell 2
  clear hv6 hv5 hT6 hF6 hF hp6 HP5
  go_wp2_with (go_at_call 14; refine (len_calls _ w.heap.size _ c6 A6 hc6).mono ?_; rintro e w' ⟨rfl, rfl⟩)
  go_ret
  exact ⟨rfl, hB06⟩

end Go.Proofs.Ytbdkbjfaialeoaa
