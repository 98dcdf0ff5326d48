/- value.Right and the document's Right, as one Bool. -/
import Derived.Test.YtbdkbjfaialeoaaHeapX
namespace Go.Proofs.Ytbdkbjfaialeoaa
open Go.RowKit

/-- Which values may be. -/
def right (k n : Int) (s : ByteArray) : Bool :=
  if k = 0 ∨ k = 1 then n == 0 && s.toList.isEmpty
  else if k = 2 then (n == 0 || n == 1) && s.toList.isEmpty
  else if k = 3 ∨ k = 5 then s.toList.isEmpty
  else if k = 4 then n == 0
  else false

set_option maxHeartbeats 1000000 in
theorem vright_calls (w : World) (k n : Int) (s : ByteArray) :
    Calls Try.prog 32 #[.agg #[.int .i64 k, .int .i64 n, .string s]] w fun e w' => e = .returned (.bool (right k n s)) ∧ Below w.heap.size w w' := by
  by_cases h0 : k = 0
  · subst h0
    go_enter Try.func32, Try.ntmps32
    go_wp2
    all_goals
      go_ret
      refine ⟨?_, ((Below.refl _ _).alloc (Nat.le_refl _) _).alloc (by simp) _⟩
      first | rfl | (simp_all [right]; done) | (simp_all [right]; first | omega | (intro h; omega))
  by_cases h1 : k = 1
  · subst h1
    clear h0
    go_enter Try.func32, Try.ntmps32
    go_wp2
    all_goals
      go_ret
      refine ⟨?_, ((Below.refl _ _).alloc (Nat.le_refl _) _).alloc (by simp) _⟩
      first | rfl | (simp_all [right]; done) | (simp_all [right]; first | omega | (intro h; omega))
  by_cases h2 : k = 2
  · subst h2
    clear h0 h1
    go_enter Try.func32, Try.ntmps32
    go_wp2
    all_goals
      go_ret
      refine ⟨?_, ((Below.refl _ _).alloc (Nat.le_refl _) _).alloc (by simp) _⟩
      first | rfl | (simp_all [right]; done) | (simp_all [right]; first | omega | (intro h; omega))
  by_cases h3 : k = 3
  · subst h3
    clear h0 h1 h2
    go_enter Try.func32, Try.ntmps32
    go_wp2
    all_goals
      go_ret
      refine ⟨?_, ((Below.refl _ _).alloc (Nat.le_refl _) _).alloc (by simp) _⟩
      first | rfl | (simp_all [right]; done) | (simp_all [right]; first | omega | (intro h; omega))
  by_cases h4 : k = 4
  · subst h4
    clear h0 h1 h2 h3
    go_enter Try.func32, Try.ntmps32
    go_wp2
    all_goals
      go_ret
      refine ⟨?_, ((Below.refl _ _).alloc (Nat.le_refl _) _).alloc (by simp) _⟩
      first | rfl | (simp_all [right]; done) | (simp_all [right]; first | omega | (intro h; omega))
  by_cases h5 : k = 5
  · subst h5
    clear h0 h1 h2 h3 h4
    go_enter Try.func32, Try.ntmps32
    go_wp2
    all_goals
      go_ret
      refine ⟨?_, ((Below.refl _ _).alloc (Nat.le_refl _) _).alloc (by simp) _⟩
      first | rfl | (simp_all [right]; done) | (simp_all [right]; first | omega | (intro h; omega))
  have hd0 : (k == 0) = false := by simpa using h0
  have hd1 : (k == 1) = false := by simpa using h1
  have hd2 : (k == 2) = false := by simpa using h2
  have hd3 : (k == 3) = false := by simpa using h3
  have hd4 : (k == 4) = false := by simpa using h4
  have hd5 : (k == 5) = false := by simpa using h5
  have hr : right k n s = false := by simp [right, *]
  rw [hr]
  clear h0 h1 h2 h3 h4 h5 hr
  go_enter Try.func32, Try.ntmps32
  go_wp2
  go_ret
  exact ⟨rfl, ((Below.refl _ _).alloc (Nat.le_refl _) _).alloc (by simp) _⟩

set_option maxHeartbeats 1000000 in
theorem rright_calls (w : World) (k n : Int) (s : ByteArray) :
    Calls Try.prog 17 #[.agg #[.int .i64 k, .int .i64 n, .string s]] w fun e w' => e = .returned (.bool (right k n s)) ∧ Below w.heap.size w w' := by
  by_cases h0 : k = 0
  · subst h0
    go_enter Try.func17, Try.ntmps17
    go_wp2
    all_goals
      go_ret
      refine ⟨?_, (Below.refl _ _).alloc (Nat.le_refl _) _⟩
      first | rfl | (simp_all [right]; done) | (simp_all [right]; first | omega | (intro h; omega))
  by_cases h1 : k = 1
  · subst h1
    clear h0
    go_enter Try.func17, Try.ntmps17
    go_wp2
    all_goals
      go_ret
      refine ⟨?_, (Below.refl _ _).alloc (Nat.le_refl _) _⟩
      first | rfl | (simp_all [right]; done) | (simp_all [right]; first | omega | (intro h; omega))
  by_cases h2 : k = 2
  · subst h2
    clear h0 h1
    go_enter Try.func17, Try.ntmps17
    go_wp2
    all_goals
      go_ret
      refine ⟨?_, (Below.refl _ _).alloc (Nat.le_refl _) _⟩
      first | rfl | (simp_all [right]; done) | (simp_all [right]; first | omega | (intro h; omega))
  by_cases h3 : k = 3
  · subst h3
    clear h0 h1 h2
    go_enter Try.func17, Try.ntmps17
    go_wp2
    all_goals
      go_ret
      refine ⟨?_, (Below.refl _ _).alloc (Nat.le_refl _) _⟩
      first | rfl | (simp_all [right]; done) | (simp_all [right]; first | omega | (intro h; omega))
  by_cases h4 : k = 4
  · subst h4
    clear h0 h1 h2 h3
    go_enter Try.func17, Try.ntmps17
    go_wp2
    all_goals
      go_ret
      refine ⟨?_, (Below.refl _ _).alloc (Nat.le_refl _) _⟩
      first | rfl | (simp_all [right]; done) | (simp_all [right]; first | omega | (intro h; omega))
  by_cases h5 : k = 5
  · subst h5
    clear h0 h1 h2 h3 h4
    go_enter Try.func17, Try.ntmps17
    go_wp2
    all_goals
      go_ret
      refine ⟨?_, (Below.refl _ _).alloc (Nat.le_refl _) _⟩
      first | rfl | (simp_all [right]; done) | (simp_all [right]; first | omega | (intro h; omega))
  have hd0 : (k == 0) = false := by simpa using h0
  have hd1 : (k == 1) = false := by simpa using h1
  have hd2 : (k == 2) = false := by simpa using h2
  have hd3 : (k == 3) = false := by simpa using h3
  have hd4 : (k == 4) = false := by simpa using h4
  have hd5 : (k == 5) = false := by simpa using h5
  have hr : right k n s = false := by simp [right, *]
  rw [hr]
  clear h0 h1 h2 h3 h4 h5 hr
  go_enter Try.func17, Try.ntmps17
  go_wp2
  go_ret
  exact ⟨rfl, (Below.refl _ _).alloc (Nat.le_refl _) _⟩

end Go.Proofs.Ytbdkbjfaialeoaa
