/- The walk of HeapFull: true. -/
import Derived.Test.YtbdkbjfaialeoaaShown
namespace Go.Proofs.Ytbdkbjfaialeoaa
open Go.RowKit Go.Sort

def lastOf (k : Nat) : Int := if k ≤ 5000 then 0 else 71

theorem lastOf_le {k : Nat} (h : k ≤ 5000) : lastOf k = 0 := if_pos h
theorem lastOf_gt {k : Nat} (h : 5000 < k) : lastOf k = 71 := if_neg (by omega)

def FullRel (w : World) (hb : Nat) (k : Nat) (wr : World) : Prop :=
  ∃ F os, Hp wr hb hb F os ∧ os.length = min k 5000 ∧ Below w.heap.size w wr ∧ (∀ j, F j → w.heap.size ≤ j) ∧ w.heap.size ≤ hb ∧ hb ≤ wr.heap.size

theorem full_ok {w w1 wr w' : World} {F : Nat → Prop} {os : List Ob} {o : Ob} {k : Nat} (h : Grew wr w1.heap.size w1.heap.size F (os ++ [o]) w') (hos : (os ++ [o]).length = min (k + 1) 5000) (hB : Below w.heap.size w wr) (hF : ∀ j, F j → w.heap.size ≤ j)
    (hhb : w.heap.size ≤ w1.heap.size) (hbw : w1.heap.size ≤ wr.heap.size) : FullRel w w1.heap.size (k + 1) w' := by
  obtain ⟨F', hp, hT, hF'⟩ := h
  refine ⟨F', _, hp, hos, hB.trans (hT.below hB.size hF), fun j hj => ?_, hhb, Nat.le_trans hbw hT.size⟩
  rcases hF' j hj with h | h
  · exact hF j h
  · exact Nat.le_trans hB.size h

set_option maxHeartbeats 2000000 in
theorem full_in (w : World) (n : Nat) (h0 : 4990 ≤ n) (h1 : n ≤ 5010) : Calls Try.prog 3 #[.int .i64 n] w fun e w' => e = .returned (.bool true) ∧ Below w.heap.size w w' := by
  have d0 : decide ((n : Int) < 4990) = false := by simp; omega
  have d1 : decide ((5010 : Int) < n) = false := by simp; omega
  go_enter Try.func3, Try.ntmps3
  go_wp2_with fail
  refine (shown_calls w).mono ?_
  rintro e w1 ⟨rfl, hB1⟩
  go_wp2_with fail
  refine (new_calls w1).mono ?_
  rintro e w2 ⟨rfl, F, hp, hB2, hF⟩
  have hz1 := hB1.size
  have HR : Hid (FullRel w w1.heap.size 4 w2) := ⟨F, _, hp, (by simp [first4]), hB1.trans (hB2.mono hz1), fun j hj => Nat.le_trans hz1 (hF j hj), hz1, hB2.size⟩
  clear hp hB2 hF hB1
  go_wp2_with fail
  go_loopw [5, 6] (fun l i wr => ∃ k : Nat, 4 ≤ k ∧ k ≤ n ∧ i = .int .i64 k ∧ l = .int .i64 (lastOf k) ∧ FullRel w w1.heap.size k wr) (fun _ i _ => n - (intOf i).toNat)
  case atStart => exact ⟨4, by omega, by omega, rfl, by rw [lastOf_le (by omega)], HR.out⟩
  case round =>
    clear HR
    obtain ⟨k, hk4, hkn, rfl, rfl, F, os, hp, hos, hB, hF, hhb, hbw⟩ := hrel
    by_cases hlt : k < n
    · by_cases h5 : k < 5000
      · have hl : os.length < 5000 := by omega
        have hos' : os.length = k := by omega
        clear hos
        have HOS := Lib.hid hos'
        clear hos'
        have HP := Lib.hid hp
        clear hp
        go_wp2_with (go_at_call 13; refine (alloc_ok wr w1.heap.size w1.heap.size F os ⟨0, -1, 0, 0⟩ HP.out hbw hl (.inl rfl)).mono ?_; rintro e w' ⟨rfl, hg⟩; have HG := Lib.hid hg; clear hg)
        go_roundw
        case rel => exact ⟨k + 1, by omega, by omega, by go_num, by rw [lastOf_le (by omega)], full_ok HG.out (by simp [HOS.out]; omega) hB hF hhb hbw⟩
        case measure => simp [intOf]; omega
      · have hl : os.length = 5000 := by omega
        obtain ⟨A, cap, hc⟩ := hp.cell
        rw [hl] at hc
        have HOS := Lib.hid hl
        have HP := Lib.hid hp
        clear hp hl hos
        go_wp2_with (go_at_call 13; refine (alloc_full wr w1.heap.size cap A ⟨0, -1, 0, 0⟩ hc (.inl rfl)).mono ?_; rintro e w' ⟨rfl, hg⟩; have HG := Lib.hid hg; clear hg)
        go_roundw
        case rel => exact ⟨k + 1, by omega, by omega, by go_num, by rw [lastOf_gt (by omega)], F, os, HP.out.below HG.out, by rw [HOS.out]; omega, hB.trans (HG.out.mono hB.size), hF, hhb, Nat.le_trans hbw HG.out.size⟩
        case measure => simp [intOf]; omega
    · obtain rfl : k = n := by omega
      obtain ⟨A, cap, hc⟩ := hp.cell
      have HP := Lib.hid hp
      clear hp
      by_cases h5 : k ≤ 5000
      · have hl : os.length = k := by omega
        rw [hl] at hc
        rw [lastOf_le h5]
        clear hl hos
        have h6 : decide ((5000 : Int) < k) = false := by simp; omega
        have h7 : (k : Int) ≤ 5000 := by omega
        go_wp2_with (go_at_call 14; refine (len_calls _ w1.heap.size _ cap A hc).mono ?_; rintro e w' ⟨rfl, rfl⟩)
        go_ret
        exact ⟨rfl, hB⟩
      · have hl : os.length = 5000 := by omega
        rw [hl] at hc
        rw [lastOf_gt (by omega)]
        clear hl hos
        have h6 : decide ((5000 : Int) < k) = true := by simp; omega
        have h7 : ¬ (k : Int) ≤ 5000 := by omega
        go_wp2_with (go_at_call 14; refine (len_calls _ w1.heap.size _ cap A hc).mono ?_; rintro e w' ⟨rfl, rfl⟩)
        go_ret
        exact ⟨rfl, hB⟩

set_option maxHeartbeats 2000000 in
theorem full_low (w : World) (n : Int) (h0 : n < 4990) : Calls Try.prog 3 #[.int .i64 n] w fun e w' => e = .returned (.bool true) ∧ Below w.heap.size w w' := by
  have d0 : decide (n < 4990) = true := by simp; omega
  go_enter Try.func3, Try.ntmps3
  go_wp2_with fail
  refine (shown_calls w).mono ?_
  rintro e w1 ⟨rfl, hB1⟩
  go_wp2_with fail
  go_ret
  exact ⟨rfl, hB1⟩

set_option maxHeartbeats 2000000 in
theorem full_high (w : World) (n : Int) (h0 : 5010 < n) : Calls Try.prog 3 #[.int .i64 n] w fun e w' => e = .returned (.bool true) ∧ Below w.heap.size w w' := by
  have d0 : decide (n < 4990) = false := by simp; omega
  have d1 : decide (5010 < n) = true := by simp; omega
  go_enter Try.func3, Try.ntmps3
  go_wp2_with fail
  refine (shown_calls w).mono ?_
  rintro e w1 ⟨rfl, hB1⟩
  go_wp2_with fail
  go_ret
  exact ⟨rfl, hB1⟩

theorem full_any (w : World) (n : Int) : Calls Try.prog 3 #[.int .i64 n] w fun e w' => e = .returned (.bool true) ∧ Below w.heap.size w w' := by
  by_cases h0 : n < 4990
  · exact full_low w n h0
  · by_cases h1 : 5010 < n
    · exact full_high w n h1
    · obtain ⟨m, rfl⟩ := Int.eq_ofNat_of_zero_le (show 0 ≤ n by omega)
      exact full_in w m (by omega) (by omega)

end Go.Proofs.Ytbdkbjfaialeoaa
