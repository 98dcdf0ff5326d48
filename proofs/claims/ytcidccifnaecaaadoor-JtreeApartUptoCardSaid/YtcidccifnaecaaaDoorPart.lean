/- What a node's parts must be: part, its tests, walked. -/
import Derived.Test.YtcidccifnaecaaaDoorRname
namespace Go.Proofs.YtcidccifnaecaaaDoor
open Go.RowKit

/-- The function that tells it. -/
def partF (k : Int) (len i : Nat) : Nat :=
  if k = 10 ∨ k = 41 then (if i + 1 = len then 96 else 98)
  else if k = 11 then 99
  else if k = 32 then 100
  else if k = 17 ∧ i = 0 then 101
  else if k = 38 then 96
  else if (k = 33 ∨ k = 34 ∨ k = 35) ∧ 0 < i then 96
  else 97

theorem part1_calls (w : World) (op : Int) : Calls Tryd.prog 96 #[.int .i64 op] w fun e w' => e = .returned (.bool (op == 32)) ∧ w = w' := by
  go_enter Tryd.func96, Tryd.ntmps96
  go_wp2
  go_ret
  simp
theorem part3_calls (w : World) (op : Int) : Calls Tryd.prog 98 #[.int .i64 op] w fun e w' => e = .returned (.bool (op == 1)) ∧ w = w' := by
  go_enter Tryd.func98, Tryd.ntmps98
  go_wp2
  go_ret
  simp
theorem part4_calls (w : World) (op : Int) : Calls Tryd.prog 99 #[.int .i64 op] w fun e w' => e = .returned (.bool (op == 12)) ∧ w = w' := by
  go_enter Tryd.func99, Tryd.ntmps99
  go_wp2
  go_ret
  simp
theorem part5_calls (w : World) (op : Int) : Calls Tryd.prog 100 #[.int .i64 op] w fun e w' => e = .returned (.bool (stmtK op)) ∧ w = w' := by
  cases h1 : decide (30 ≤ op)
  · go_enter Tryd.func100, Tryd.ntmps100
    go_wp2
    go_ret
    simp [stmtK, h1]
  · go_enter Tryd.func100, Tryd.ntmps100
    go_wp2
    go_ret
    simp [stmtK, h1]
theorem part6_calls (w : World) (op : Int) : Calls Tryd.prog 101 #[.int .i64 op] w fun e w' => e = .returned (.bool (op == 1 || op == 13 || op == 14)) ∧ w = w' := by
  cases h1 : (op == 1) <;> cases h2 : (op == 13)
  all_goals
    go_enter Tryd.func101, Tryd.ntmps101
    go_wp2
    go_ret
    simp
theorem exprK_calls (w : World) (op : Int) : Calls Tryd.prog 47 #[.int .i64 op] w fun e w' => e = .returned (.bool (exprK op)) ∧ w = w' := by
  cases h1 : decide (1 ≤ op) <;> cases h2 : decide (op ≤ 23) <;> cases h3 : (op == 12)
  all_goals
    have h4 : (op != 12) = !(op == 12) := rfl
    rw [h3] at h4
    go_enter Tryd.func47, Tryd.ntmps47
    go_wp2
    go_ret
    simp [exprK, h1, h2, h3]
theorem part2_calls (w : World) (op : Int) : Calls Tryd.prog 97 #[.int .i64 op] w fun e w' => e = .returned (.bool (exprK op)) ∧ w = w' := by
  go_enter Tryd.func97, Tryd.ntmps97
  go_wp2_with (go_at_call 47; refine (exprK_calls _ _).mono ?_; rintro e w' ⟨rfl, rfl⟩)
  go_ret
  exact ⟨rfl, rfl⟩
theorem partFn_calls (w : World) (k : Int) (len i : Nat) (op : Int) : Calls Tryd.prog (partF k len i) #[.int .i64 op] w fun e w' => e = .returned (.bool (partB k len i op)) ∧ w = w' := by
  unfold partF partB
  by_cases h1 : k = 10 ∨ k = 41
  · rw [if_pos h1, if_pos h1]
    by_cases h2 : i + 1 = len
    · rw [if_pos h2, if_pos h2]; exact part1_calls w op
    · rw [if_neg h2, if_neg h2]; exact part3_calls w op
  rw [if_neg h1, if_neg h1]
  by_cases h3 : k = 11
  · rw [if_pos h3, if_pos h3]; exact part4_calls w op
  rw [if_neg h3, if_neg h3]
  by_cases h4 : k = 32
  · rw [if_pos h4, if_pos h4]; exact part5_calls w op
  rw [if_neg h4, if_neg h4]
  by_cases h5 : k = 17 ∧ i = 0
  · rw [if_pos h5, if_pos h5]; exact part6_calls w op
  rw [if_neg h5, if_neg h5]
  by_cases h6 : k = 38
  · rw [if_pos h6, if_pos h6]; exact part1_calls w op
  rw [if_neg h6, if_neg h6]
  by_cases h7 : (k = 33 ∨ k = 34 ∨ k = 35) ∧ 0 < i
  · rw [if_pos h7, if_pos h7]; exact part1_calls w op
  rw [if_neg h7, if_neg h7]
  exact part2_calls w op

set_option maxRecDepth 100000 in
set_option maxHeartbeats 4000000 in
theorem part_calls (w : World) (op : Int) (s : ByteArray) (n : Int) (A : Option Addr) (len c : Nat) (line : Int) (i : Nat) (hl : len ≤ maxLen) :
    Calls Tryd.prog 70 #[.agg #[.int .i64 op, .string s, .int .i64 n, .slice A len c, .int .i64 line], .int .i64 i] w fun e w' => e = .returned (.func (.func (partF op len i)) #[] #[]) ∧ Below w.heap.size w w' := by
  unfold maxLen at hl
  obtain ⟨w0, hw0⟩ : ∃ w0, w.alloc (.cells #[.int .i64 op, .string s, .int .i64 n, .slice A len c, .int .i64 line] 24) = w0 := ⟨_, rfl⟩
  have bx : Blk5 w0 w.heap.size op s n (.slice A len c) line := by rw [← hw0]; exact blk5_new _ _ _ _ _ _
  have hb0 : Below w.heap.size w w0 := by rw [← hw0]; exact (Below.refl _ _).alloc (Nat.le_refl _) _
  have HB := Lib.hid hb0
  obtain ⟨c0, c1, c2, c3, c4⟩ := bx
  clear hb0
  by_cases h10 : op = 10
  · subst h10
    by_cases hi : i + 1 = len
    · have hN : Hid (partF 10 len i = 96) := Lib.hid (by simp [partF, hi])
      have hd : ((i : Int) == (len : Int) - 1) = true := by simp; omega
      go_enter Tryd.func70, Tryd.ntmps70
      go_wp2
      go_ret
      exact ⟨by rw [hN.out]; rfl, HB.out⟩
    · have hN : Hid (partF 10 len i = 98) := Lib.hid (by simp [partF, hi])
      have hd : ((i : Int) == (len : Int) - 1) = false := by simp; omega
      go_enter Tryd.func70, Tryd.ntmps70
      go_wp2
      go_ret
      exact ⟨by rw [hN.out]; rfl, HB.out⟩
  by_cases h41 : op = 41
  · subst h41
    by_cases hi : i + 1 = len
    · have hN : Hid (partF 41 len i = 96) := Lib.hid (by simp [partF, hi])
      have hd : ((i : Int) == (len : Int) - 1) = true := by simp; omega
      go_enter Tryd.func70, Tryd.ntmps70
      go_wp2
      go_ret
      exact ⟨by rw [hN.out]; rfl, HB.out⟩
    · have hN : Hid (partF 41 len i = 98) := Lib.hid (by simp [partF, hi])
      have hd : ((i : Int) == (len : Int) - 1) = false := by simp; omega
      go_enter Tryd.func70, Tryd.ntmps70
      go_wp2
      go_ret
      exact ⟨by rw [hN.out]; rfl, HB.out⟩
  by_cases h11 : op = 11
  · subst h11
    have hN : Hid (partF 11 len i = 99) := Lib.hid (by simp [partF])
    go_enter Tryd.func70, Tryd.ntmps70
    go_wp2
    go_ret
    exact ⟨by rw [hN.out]; rfl, HB.out⟩
  by_cases h32 : op = 32
  · subst h32
    have hN : Hid (partF 32 len i = 100) := Lib.hid (by simp [partF])
    go_enter Tryd.func70, Tryd.ntmps70
    go_wp2
    go_ret
    exact ⟨by rw [hN.out]; rfl, HB.out⟩
  by_cases h38 : op = 38
  · subst h38
    have hN : Hid (partF 38 len i = 96) := Lib.hid (by simp [partF])
    go_enter Tryd.func70, Tryd.ntmps70
    go_wp2
    go_ret
    exact ⟨by rw [hN.out]; rfl, HB.out⟩
  by_cases h17 : op = 17
  · subst h17
    by_cases hi : i = 0
    · have hN : Hid (partF 17 len i = 101) := Lib.hid (by simp [partF, hi])
      have hd : ((i : Int) == 0) = true := by simp; omega
      go_enter Tryd.func70, Tryd.ntmps70
      go_wp2
      go_ret
      exact ⟨by rw [hN.out]; rfl, HB.out⟩
    · have hN : Hid (partF 17 len i = 97) := Lib.hid (by simp [partF, hi])
      have hd : ((i : Int) == 0) = false := by simp; omega
      go_enter Tryd.func70, Tryd.ntmps70
      go_wp2
      go_ret
      exact ⟨by rw [hN.out]; rfl, HB.out⟩
  by_cases h33 : op = 33
  · subst h33
    by_cases hi : 0 < i
    · have hN : Hid (partF 33 len i = 96) := Lib.hid (by simp [partF, hi])
      have hd : decide (0 < (i : Int)) = true := by simp; omega
      go_enter Tryd.func70, Tryd.ntmps70
      go_wp2
      go_ret
      exact ⟨by rw [hN.out]; rfl, HB.out⟩
    · have hN : Hid (partF 33 len i = 97) := Lib.hid (by simp [partF, hi])
      have hd : decide (0 < (i : Int)) = false := by simp; omega
      go_enter Tryd.func70, Tryd.ntmps70
      go_wp2
      go_ret
      exact ⟨by rw [hN.out]; rfl, HB.out⟩
  by_cases h34 : op = 34
  · subst h34
    by_cases hi : 0 < i
    · have hN : Hid (partF 34 len i = 96) := Lib.hid (by simp [partF, hi])
      have hd : decide (0 < (i : Int)) = true := by simp; omega
      go_enter Tryd.func70, Tryd.ntmps70
      go_wp2
      go_ret
      exact ⟨by rw [hN.out]; rfl, HB.out⟩
    · have hN : Hid (partF 34 len i = 97) := Lib.hid (by simp [partF, hi])
      have hd : decide (0 < (i : Int)) = false := by simp; omega
      go_enter Tryd.func70, Tryd.ntmps70
      go_wp2
      go_ret
      exact ⟨by rw [hN.out]; rfl, HB.out⟩
  by_cases h35 : op = 35
  · subst h35
    by_cases hi : 0 < i
    · have hN : Hid (partF 35 len i = 96) := Lib.hid (by simp [partF, hi])
      have hd : decide (0 < (i : Int)) = true := by simp; omega
      go_enter Tryd.func70, Tryd.ntmps70
      go_wp2
      go_ret
      exact ⟨by rw [hN.out]; rfl, HB.out⟩
    · have hN : Hid (partF 35 len i = 97) := Lib.hid (by simp [partF, hi])
      have hd : decide (0 < (i : Int)) = false := by simp; omega
      go_enter Tryd.func70, Tryd.ntmps70
      go_wp2
      go_ret
      exact ⟨by rw [hN.out]; rfl, HB.out⟩
  have hN : Hid (partF op len i = 97) := Lib.hid (by simp [partF, h10, h41, h11, h32, h17, h38, h33, h34, h35])
  have q10 : (op == 10) = false := by simpa using h10
  have q41 : (op == 41) = false := by simpa using h41
  have q11 : (op == 11) = false := by simpa using h11
  have q32 : (op == 32) = false := by simpa using h32
  have q17 : (op == 17) = false := by simpa using h17
  have q38 : (op == 38) = false := by simpa using h38
  have q33 : (op == 33) = false := by simpa using h33
  have q34 : (op == 34) = false := by simpa using h34
  have q35 : (op == 35) = false := by simpa using h35
  clear h10 h41 h11 h32 h17 h38 h33 h34 h35
  go_enter Tryd.func70, Tryd.ntmps70
  go_wp2
  go_ret
  exact ⟨by rw [hN.out]; rfl, HB.out⟩

end Go.Proofs.YtcidccifnaecaaaDoor
