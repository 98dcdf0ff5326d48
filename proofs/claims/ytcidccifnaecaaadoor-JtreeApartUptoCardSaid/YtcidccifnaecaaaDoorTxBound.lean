/- How long a tree's text may be. -/
import Derived.Test.YtcidccifnaecaaaDoorQuote
namespace Go.Proofs.YtcidccifnaecaaaDoor
open Go.RowKit

mutual
/-- what a tree's text weighs -/
def Tree.wt : Tree → Nat
  | .node _ s n l _ => 4 * s.size + (Lib.itoa n).length + 60 + wts l
def wts : List Tree → Nat
  | [] => 0
  | t :: ts => t.wt + wts ts
end
theorem wt_eq (t : Tree) : t.wt = 4 * t.s.size + (Lib.itoa t.n).length + 60 + wts t.l := by
  cases t; simp [Tree.wt, Tree.s, Tree.n, Tree.l]
theorem wts_mem : ∀ {l : List Tree} {u : Tree}, u ∈ l → u.wt ≤ wts l
  | [], u, h => by simp at h
  | t :: ts, u, h => by
    rw [wts]
    rcases List.mem_cons.1 h with rfl | h
    · omega
    · have := wts_mem h
      omega

def sumL (g : Nat) (ts : List (List UInt8)) : Nat := (ts.map fun x => x.length + g).sum
theorem sumL_cons (g : Nat) (x : List UInt8) (ts : List (List UInt8)) : sumL g (x :: ts) = x.length + g + sumL g ts := rfl
theorem sumL_app (g : Nat) : ∀ (a b : List (List UInt8)), sumL g (a ++ b) = sumL g a + sumL g b
  | [], b => by simp [sumL]
  | x :: a, b => by
    rw [List.cons_append, sumL_cons, sumL_app g a b, sumL_cons]
    omega
theorem sumL_three (g : Nat) : ∀ (ts : List (List UInt8)), (ts.getD 0 []).length + (ts.getD 1 []).length + (ts.getD 2 []).length ≤ sumL g ts
  | [] => by simp
  | [a] => by simp [sumL]
  | [a, b] => by simp [sumL]; omega
  | a :: b :: c :: r => by simp [sumL]; omega
theorem join_len : ∀ (ts : List (List UInt8)), (Lib.join ts [44, 32]).length ≤ sumL 2 ts
  | [] => by simp [Lib.join, List.intercalate]
  | [x] => by simp [Lib.join, List.intercalate, sumL]
  | x :: y :: l => by
    have h := join_len (y :: l)
    have e : Lib.join (x :: y :: l) [44, 32] = x ++ [44, 32] ++ Lib.join (y :: l) [44, 32] := by simp [Lib.join, List.intercalate]
    rw [e, sumL_cons]
    simp only [List.length_append, List.length_cons, List.length_nil]
    omega
theorem tail_len : ∀ (ts : List (List UInt8)), (ts.getD 0 []).length + (Lib.join ts.tail [44, 32]).length ≤ sumL 2 ts
  | [] => by simp [Lib.join, List.intercalate]
  | x :: l => by
    have h := join_len l
    rw [sumL_cons]
    simp only [List.getD_cons_zero, List.tail_cons]
    omega
theorem fun_len (ts : List (List UInt8)) : (funL ts).length ≤ sumL 2 ts + 3 := by
  rcases List.eq_nil_or_concat ts with rfl | ⟨l, x, rfl⟩
  · simp [funL, Lib.join, List.intercalate, sumL]
  · have h := join_len l
    unfold funL
    rw [List.concat_eq_append, List.dropLast_concat, sumL_app]
    simp only [List.getLastD_concat, List.length_append, List.length_cons, List.length_nil, sumL_cons]
    omega
theorem quoteC_len (c : UInt8) : (quoteC c).length ≤ 4 := by
  unfold quoteC
  repeat' split
  all_goals simp
theorem quote_len (s : List UInt8) : (quoteL s).length ≤ 4 * s.length + 2 := by
  have : ∀ l : List UInt8, (l.flatMap quoteC).length ≤ 4 * l.length := by
    intro l
    induction l with
    | nil => simp
    | cons c l ih =>
      have := quoteC_len c
      rw [List.flatMap_cons, List.length_append, List.length_cons]
      omega
  have := this s
  unfold quoteL
  simp only [List.length_append, List.length_cons, List.length_nil]
  omega
theorem word_len (k : Int) : (wordOf k).length ≤ 9 := by
  unfold wordOf
  repeat' split
  all_goals simp
theorem sign_len (k : Int) (s : List UInt8) : (signOf k s).length ≤ s.length + 2 := by
  unfold signOf
  repeat' split
  all_goals simp
theorem lines_len {R : Tree → List UInt8 → List UInt8} {i : List UInt8} {K : Nat} : ∀ {l : List Tree}, (∀ u ∈ l, (R u i).length + (i.length + 3) ≤ u.wt * K) → (linesL R l i).length ≤ wts l * K
  | [], _ => by simp [linesL]
  | t :: ts, h => by
    have h1 := h t (by simp)
    have h2 := lines_len (l := ts) fun u hu => h u (by simp [hu])
    have e : linesL R (t :: ts) i = i ++ R t i ++ [10] ++ linesL R ts i := by simp [linesL]
    rw [e, wts, Nat.add_mul]
    simp only [List.length_append, List.length_cons, List.length_nil]
    omega
theorem parts_len {R : Tree → List UInt8 → List UInt8} {i : List UInt8} {K : Nat} : ∀ {l : List Tree}, (∀ u ∈ l, (R u i).length + (i.length + 3) ≤ u.wt * K) → sumL 2 (l.map fun u => R u i) ≤ wts l * K
  | [], _ => by simp [sumL, wts]
  | t :: ts, h => by
    have h1 := h t (by simp)
    have h2 := parts_len (l := ts) fun u hu => h u (by simp [hu])
    rw [List.map_cons, sumL_cons, wts, Nat.add_mul]
    omega

theorem ite_len {p : Prop} [Decidable p] {a b : List UInt8} {n : Nat} (ha : p → a.length ≤ n) (hb : ¬ p → b.length ≤ n) : (if p then a else b).length ≤ n := by
  by_cases h : p
  · rw [if_pos h]; exact ha h
  · rw [if_neg h]; exact hb h
set_option maxHeartbeats 1000000 in
theorem step_len (R : Tree → List UInt8 → List UInt8) (t : Tree) (i : List UInt8) (B : Nat) (h1 : sumL 2 (t.l.map fun u => R u i) ≤ B) (h2 : (linesL R t.l (i ++ [32, 32])).length ≤ B) :
    (stepT R t i).length ≤ 4 * t.s.size + (Lib.itoa t.n).length + 45 + i.length + B := by
  have q := quote_len t.s.data.toList
  have hs : t.s.data.toList.length = t.s.size := Array.length_toList
  have hw := word_len t.op
  have hg := sign_len t.op t.s.data.toList
  have h3 := sumL_three 2 (t.l.map fun u => R u i)
  have h4 := join_len (t.l.map fun u => R u i)
  have h5 := tail_len (t.l.map fun u => R u i)
  have h6 := fun_len (t.l.map fun u => R u i)
  unfold stepT
  simp only
  generalize (t.l.map fun u => R u i) = ts at *
  generalize (t.l.map Tree.op).getD 0 0 = z
  generalize Lib.itoa t.n = ia
  repeat' (refine ite_len (fun _ => ?_) (fun _ => ?_))
  all_goals first
    | omega
    | (simp only [List.length_append, List.length_cons, List.length_nil]; omega)
    | (split <;> (simp only [List.length_append, List.length_cons, List.length_nil]; omega))

theorem T_len : ∀ (h : Nat) (t : Tree) (i : List UInt8), (T h t i).length + (i.length + 3) ≤ t.wt * (1 + i.length + 2 * h)
  | 0, t, i => by
    rw [wt_eq]
    have : 60 * (1 + i.length + 2 * 0) ≤ (4 * t.s.size + (Lib.itoa t.n).length + 60 + wts t.l) * (1 + i.length + 2 * 0) := Nat.mul_le_mul_right _ (by omega)
    simp only [T, List.length_nil]
    omega
  | h + 1, t, i => by
    have h1 : sumL 2 (t.l.map fun u => T h u i) ≤ wts t.l * (1 + i.length + 2 * (h + 1)) := parts_len fun u _ => Nat.le_trans (T_len h u i) (Nat.mul_le_mul_left _ (by omega))
    have h2 : (linesL (T h) t.l (i ++ [32, 32])).length ≤ wts t.l * (1 + i.length + 2 * (h + 1)) := lines_len fun u _ => Nat.le_trans (T_len h u (i ++ [32, 32])) (Nat.mul_le_mul_left _ (by simp; omega))
    have h3 := step_len (T h) t i _ h1 h2
    rw [wt_eq, show T (h + 1) t i = stepT (T h) t i from rfl]
    generalize 4 * t.s.size + (Lib.itoa t.n).length = z at *
    have h4 : (z + 60) * (1 + i.length + 2 * (h + 1)) = z * (1 + i.length + 2 * (h + 1)) + 60 * (1 + i.length + 2 * (h + 1)) := Nat.add_mul _ _ _
    have h5 : z ≤ z * (1 + i.length + 2 * (h + 1)) := Nat.le_mul_of_pos_right _ (by omega)
    rw [Nat.add_mul, h4]
    omega

end Go.Proofs.YtcidccifnaecaaaDoor
