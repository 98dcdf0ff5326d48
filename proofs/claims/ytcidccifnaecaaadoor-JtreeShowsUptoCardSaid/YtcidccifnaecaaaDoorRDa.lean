/- The document's Right: rows of parts, forms: walked. -/
import Derived.Test.YtcidccifnaecaaaDoorRight
namespace Go.Proofs.YtcidccifnaecaaaDoor
open Go.RowKit

def exprB (h : Nat) (t : Tree) : Bool := exprK t.op && fitsB h t
def stmtB (h : Nat) (t : Tree) : Bool := stmtK t.op && fitsB h t
def blockB (h : Nat) (t : Tree) : Bool := t.op == 32 && fitsB h t
def allB (h : Nat) (l : List Tree) : Bool := l.all (exprB h)
def lastB (h : Nat) : List Tree → Bool
  | [] => false
  | [u] => blockB h u
  | u :: us => (u.op == 1 && exprB h u) && lastB h us
def funB (h : Nat) (l : List Tree) : Bool := decide (1 ≤ l.length) && decide (l.length ≤ 201) && lastB h l

theorem kids_all {R : Tree → Bool} {k : Int} {len : Nat} {q : Int → Bool} : ∀ {l : List Tree} {i : Nat}, (∀ j op, i ≤ j → j < i + l.length → partB k len j op = q op) → kidsB R k len i l = l.all fun u => q u.op && R u
  | [], _, _ => rfl
  | u :: us, i, h => by
    rw [kidsB, h i u.op (Nat.le_refl _) (by simp), kids_all (l := us) (i := i + 1) (fun j op h1 h2 => h j op (by omega) (by simp at h2 ⊢; omega))]
    rfl
theorem kids_fun {h : Nat} {k : Int} (hk : k = 10 ∨ k = 41) {len : Nat} : ∀ {l : List Tree} {i : Nat}, i + l.length = len → 1 ≤ l.length → kidsB (fitsB h) k len i l = lastB h l
  | [], _, _, h1 => by simp at h1
  | [u], i, h0, _ => by
    have : i + 1 = len := by simpa using h0
    simp only [kidsB, lastB, blockB, partB, if_pos hk, if_pos this]
    simp
  | u :: v :: us, i, h0, _ => by
    have h1 : ¬ i + 1 = len := by simp at h0; omega
    rw [kidsB, kids_fun hk (l := v :: us) (i := i + 1) (by simp at h0 ⊢; omega) (by simp)]
    simp only [lastB, partB, if_pos hk, if_neg h1, exprB]
    cases h2 : (u.op == 1)
    · rfl
    · have : u.op = 1 := by simpa using h2
      rw [this]
      rfl
theorem bool_len (n c : Nat) : (decide ((c : Int) ≤ (n : Int)) && decide ((n : Int) ≤ (c : Int))) = ((n : Int) == (c : Int)) := by
  rw [Bool.eq_iff_iff]
  simp
  omega
theorem fits_1 (h : Nat) (t : Tree) (hk : t.op = 1) : fitsB (h + 1) t = (nameB t.s.data.toList && decide ((0 : Int) ≤ t.l.length) && decide ((t.l.length : Int) ≤ 0) && (t.n == 0) && kidsB (fitsB h) 1 t.l.length 0 t.l) := by
  have e : fitsB (h + 1) t = fitStep (fitsB h) t := rfl
  rw [e]
  unfold fitStep
  rw [hk]
  show (testB 1 t.s.data.toList && decide ((0 : Int) ≤ t.l.length) && decide ((t.l.length : Int) ≤ 0) && numB 1 t.n && kidsB (fitsB h) 1 t.l.length 0 t.l) = _
  rw [show testB 1 t.s.data.toList = (nameB t.s.data.toList) from rfl]
  rw [show numB 1 t.n = (t.n == 0) by simp [numB]]
theorem fits_2 (h : Nat) (t : Tree) (hk : t.op = 2) : fitsB (h + 1) t = (t.s.data.toList.isEmpty && decide ((0 : Int) ≤ t.l.length) && decide ((t.l.length : Int) ≤ 0) && numB 2 t.n && kidsB (fitsB h) 2 t.l.length 0 t.l) := by
  have e : fitsB (h + 1) t = fitStep (fitsB h) t := rfl
  rw [e]
  unfold fitStep
  rw [hk]
  show (testB 2 t.s.data.toList && decide ((0 : Int) ≤ t.l.length) && decide ((t.l.length : Int) ≤ 0) && numB 2 t.n && kidsB (fitsB h) 2 t.l.length 0 t.l) = _
  rw [show testB 2 t.s.data.toList = (t.s.data.toList.isEmpty) from rfl]
theorem fits_3 (h : Nat) (t : Tree) (hk : t.op = 3) : fitsB (h + 1) t = (true && decide ((0 : Int) ≤ t.l.length) && decide ((t.l.length : Int) ≤ 0) && (t.n == 0) && kidsB (fitsB h) 3 t.l.length 0 t.l) := by
  have e : fitsB (h + 1) t = fitStep (fitsB h) t := rfl
  rw [e]
  unfold fitStep
  rw [hk]
  show (testB 3 t.s.data.toList && decide ((0 : Int) ≤ t.l.length) && decide ((t.l.length : Int) ≤ 0) && numB 3 t.n && kidsB (fitsB h) 3 t.l.length 0 t.l) = _
  rw [show testB 3 t.s.data.toList = (true) from rfl]
  rw [show numB 3 t.n = (t.n == 0) by simp [numB]]
theorem fits_4 (h : Nat) (t : Tree) (hk : t.op = 4) : fitsB (h + 1) t = (t.s.data.toList.isEmpty && decide ((0 : Int) ≤ t.l.length) && decide ((t.l.length : Int) ≤ 0) && (t.n == 0) && kidsB (fitsB h) 4 t.l.length 0 t.l) := by
  have e : fitsB (h + 1) t = fitStep (fitsB h) t := rfl
  rw [e]
  unfold fitStep
  rw [hk]
  show (testB 4 t.s.data.toList && decide ((0 : Int) ≤ t.l.length) && decide ((t.l.length : Int) ≤ 0) && numB 4 t.n && kidsB (fitsB h) 4 t.l.length 0 t.l) = _
  rw [show testB 4 t.s.data.toList = (t.s.data.toList.isEmpty) from rfl]
  rw [show numB 4 t.n = (t.n == 0) by simp [numB]]
theorem fits_5 (h : Nat) (t : Tree) (hk : t.op = 5) : fitsB (h + 1) t = (t.s.data.toList.isEmpty && decide ((0 : Int) ≤ t.l.length) && decide ((t.l.length : Int) ≤ 0) && (t.n == 0) && kidsB (fitsB h) 5 t.l.length 0 t.l) := by
  have e : fitsB (h + 1) t = fitStep (fitsB h) t := rfl
  rw [e]
  unfold fitStep
  rw [hk]
  show (testB 5 t.s.data.toList && decide ((0 : Int) ≤ t.l.length) && decide ((t.l.length : Int) ≤ 0) && numB 5 t.n && kidsB (fitsB h) 5 t.l.length 0 t.l) = _
  rw [show testB 5 t.s.data.toList = (t.s.data.toList.isEmpty) from rfl]
  rw [show numB 5 t.n = (t.n == 0) by simp [numB]]
theorem fits_6 (h : Nat) (t : Tree) (hk : t.op = 6) : fitsB (h + 1) t = (t.s.data.toList.isEmpty && decide ((0 : Int) ≤ t.l.length) && decide ((t.l.length : Int) ≤ 0) && (t.n == 0) && kidsB (fitsB h) 6 t.l.length 0 t.l) := by
  have e : fitsB (h + 1) t = fitStep (fitsB h) t := rfl
  rw [e]
  unfold fitStep
  rw [hk]
  show (testB 6 t.s.data.toList && decide ((0 : Int) ≤ t.l.length) && decide ((t.l.length : Int) ≤ 0) && numB 6 t.n && kidsB (fitsB h) 6 t.l.length 0 t.l) = _
  rw [show testB 6 t.s.data.toList = (t.s.data.toList.isEmpty) from rfl]
  rw [show numB 6 t.n = (t.n == 0) by simp [numB]]
theorem fits_7 (h : Nat) (t : Tree) (hk : t.op = 7) : fitsB (h + 1) t = (t.s.data.toList.isEmpty && decide ((0 : Int) ≤ t.l.length) && decide ((t.l.length : Int) ≤ 0) && (t.n == 0) && kidsB (fitsB h) 7 t.l.length 0 t.l) := by
  have e : fitsB (h + 1) t = fitStep (fitsB h) t := rfl
  rw [e]
  unfold fitStep
  rw [hk]
  show (testB 7 t.s.data.toList && decide ((0 : Int) ≤ t.l.length) && decide ((t.l.length : Int) ≤ 0) && numB 7 t.n && kidsB (fitsB h) 7 t.l.length 0 t.l) = _
  rw [show testB 7 t.s.data.toList = (t.s.data.toList.isEmpty) from rfl]
  rw [show numB 7 t.n = (t.n == 0) by simp [numB]]
theorem fits_8 (h : Nat) (t : Tree) (hk : t.op = 8) : fitsB (h + 1) t = (t.s.data.toList.isEmpty && decide ((0 : Int) ≤ t.l.length) && decide ((t.l.length : Int) ≤ 0) && (t.n == 0) && kidsB (fitsB h) 8 t.l.length 0 t.l) := by
  have e : fitsB (h + 1) t = fitStep (fitsB h) t := rfl
  rw [e]
  unfold fitStep
  rw [hk]
  show (testB 8 t.s.data.toList && decide ((0 : Int) ≤ t.l.length) && decide ((t.l.length : Int) ≤ 0) && numB 8 t.n && kidsB (fitsB h) 8 t.l.length 0 t.l) = _
  rw [show testB 8 t.s.data.toList = (t.s.data.toList.isEmpty) from rfl]
  rw [show numB 8 t.n = (t.n == 0) by simp [numB]]
theorem fits_9 (h : Nat) (t : Tree) (hk : t.op = 9) : fitsB (h + 1) t = (t.s.data.toList.isEmpty && decide ((0 : Int) ≤ t.l.length) && decide ((t.l.length : Int) ≤ 0) && (t.n == 0) && kidsB (fitsB h) 9 t.l.length 0 t.l) := by
  have e : fitsB (h + 1) t = fitStep (fitsB h) t := rfl
  rw [e]
  unfold fitStep
  rw [hk]
  show (testB 9 t.s.data.toList && decide ((0 : Int) ≤ t.l.length) && decide ((t.l.length : Int) ≤ 0) && numB 9 t.n && kidsB (fitsB h) 9 t.l.length 0 t.l) = _
  rw [show testB 9 t.s.data.toList = (t.s.data.toList.isEmpty) from rfl]
  rw [show numB 9 t.n = (t.n == 0) by simp [numB]]
theorem fits_10 (h : Nat) (t : Tree) (hk : t.op = 10) : fitsB (h + 1) t = ((t.s.data.toList.isEmpty || nameB t.s.data.toList) && decide ((1 : Int) ≤ t.l.length) && decide ((t.l.length : Int) ≤ 201) && (t.n == 0) && kidsB (fitsB h) 10 t.l.length 0 t.l) := by
  have e : fitsB (h + 1) t = fitStep (fitsB h) t := rfl
  rw [e]
  unfold fitStep
  rw [hk]
  show (testB 10 t.s.data.toList && decide ((1 : Int) ≤ t.l.length) && decide ((t.l.length : Int) ≤ 201) && numB 10 t.n && kidsB (fitsB h) 10 t.l.length 0 t.l) = _
  rw [show testB 10 t.s.data.toList = ((t.s.data.toList.isEmpty || nameB t.s.data.toList)) from rfl]
  rw [show numB 10 t.n = (t.n == 0) by simp [numB]]
theorem fits_11 (h : Nat) (t : Tree) (hk : t.op = 11) : fitsB (h + 1) t = (t.s.data.toList.isEmpty && decide ((0 : Int) ≤ t.l.length) && decide ((t.l.length : Int) ≤ 200) && (t.n == 0) && kidsB (fitsB h) 11 t.l.length 0 t.l) := by
  have e : fitsB (h + 1) t = fitStep (fitsB h) t := rfl
  rw [e]
  unfold fitStep
  rw [hk]
  show (testB 11 t.s.data.toList && decide ((0 : Int) ≤ t.l.length) && decide ((t.l.length : Int) ≤ 200) && numB 11 t.n && kidsB (fitsB h) 11 t.l.length 0 t.l) = _
  rw [show testB 11 t.s.data.toList = (t.s.data.toList.isEmpty) from rfl]
  rw [show numB 11 t.n = (t.n == 0) by simp [numB]]
theorem fits_12 (h : Nat) (t : Tree) (hk : t.op = 12) : fitsB (h + 1) t = (true && decide ((1 : Int) ≤ t.l.length) && decide ((t.l.length : Int) ≤ 1) && (t.n == 0) && kidsB (fitsB h) 12 t.l.length 0 t.l) := by
  have e : fitsB (h + 1) t = fitStep (fitsB h) t := rfl
  rw [e]
  unfold fitStep
  rw [hk]
  show (testB 12 t.s.data.toList && decide ((1 : Int) ≤ t.l.length) && decide ((t.l.length : Int) ≤ 1) && numB 12 t.n && kidsB (fitsB h) 12 t.l.length 0 t.l) = _
  rw [show testB 12 t.s.data.toList = (true) from rfl]
  rw [show numB 12 t.n = (t.n == 0) by simp [numB]]
theorem fits_13 (h : Nat) (t : Tree) (hk : t.op = 13) : fitsB (h + 1) t = ((nameB t.s.data.toList || wordB t.s.data.toList) && decide ((1 : Int) ≤ t.l.length) && decide ((t.l.length : Int) ≤ 1) && (t.n == 0) && kidsB (fitsB h) 13 t.l.length 0 t.l) := by
  have e : fitsB (h + 1) t = fitStep (fitsB h) t := rfl
  rw [e]
  unfold fitStep
  rw [hk]
  show (testB 13 t.s.data.toList && decide ((1 : Int) ≤ t.l.length) && decide ((t.l.length : Int) ≤ 1) && numB 13 t.n && kidsB (fitsB h) 13 t.l.length 0 t.l) = _
  rw [show testB 13 t.s.data.toList = ((nameB t.s.data.toList || wordB t.s.data.toList)) from rfl]
  rw [show numB 13 t.n = (t.n == 0) by simp [numB]]
theorem fits_14 (h : Nat) (t : Tree) (hk : t.op = 14) : fitsB (h + 1) t = (t.s.data.toList.isEmpty && decide ((2 : Int) ≤ t.l.length) && decide ((t.l.length : Int) ≤ 2) && (t.n == 0) && kidsB (fitsB h) 14 t.l.length 0 t.l) := by
  have e : fitsB (h + 1) t = fitStep (fitsB h) t := rfl
  rw [e]
  unfold fitStep
  rw [hk]
  show (testB 14 t.s.data.toList && decide ((2 : Int) ≤ t.l.length) && decide ((t.l.length : Int) ≤ 2) && numB 14 t.n && kidsB (fitsB h) 14 t.l.length 0 t.l) = _
  rw [show testB 14 t.s.data.toList = (t.s.data.toList.isEmpty) from rfl]
  rw [show numB 14 t.n = (t.n == 0) by simp [numB]]
theorem fits_15 (h : Nat) (t : Tree) (hk : t.op = 15) : fitsB (h + 1) t = (t.s.data.toList.isEmpty && decide ((1 : Int) ≤ t.l.length) && decide ((t.l.length : Int) ≤ 200) && (t.n == 0) && kidsB (fitsB h) 15 t.l.length 0 t.l) := by
  have e : fitsB (h + 1) t = fitStep (fitsB h) t := rfl
  rw [e]
  unfold fitStep
  rw [hk]
  show (testB 15 t.s.data.toList && decide ((1 : Int) ≤ t.l.length) && decide ((t.l.length : Int) ≤ 200) && numB 15 t.n && kidsB (fitsB h) 15 t.l.length 0 t.l) = _
  rw [show testB 15 t.s.data.toList = (t.s.data.toList.isEmpty) from rfl]
  rw [show numB 15 t.n = (t.n == 0) by simp [numB]]
theorem fits_16 (h : Nat) (t : Tree) (hk : t.op = 16) : fitsB (h + 1) t = (t.s.data.toList.isEmpty && decide ((1 : Int) ≤ t.l.length) && decide ((t.l.length : Int) ≤ 200) && (t.n == 0) && kidsB (fitsB h) 16 t.l.length 0 t.l) := by
  have e : fitsB (h + 1) t = fitStep (fitsB h) t := rfl
  rw [e]
  unfold fitStep
  rw [hk]
  show (testB 16 t.s.data.toList && decide ((1 : Int) ≤ t.l.length) && decide ((t.l.length : Int) ≤ 200) && numB 16 t.n && kidsB (fitsB h) 16 t.l.length 0 t.l) = _
  rw [show testB 16 t.s.data.toList = (t.s.data.toList.isEmpty) from rfl]
  rw [show numB 16 t.n = (t.n == 0) by simp [numB]]
theorem fits_17 (h : Nat) (t : Tree) (hk : t.op = 17) : fitsB (h + 1) t = (t.s.data.toList.isEmpty && decide ((2 : Int) ≤ t.l.length) && decide ((t.l.length : Int) ≤ 2) && (t.n == 0) && kidsB (fitsB h) 17 t.l.length 0 t.l) := by
  have e : fitsB (h + 1) t = fitStep (fitsB h) t := rfl
  rw [e]
  unfold fitStep
  rw [hk]
  show (testB 17 t.s.data.toList && decide ((2 : Int) ≤ t.l.length) && decide ((t.l.length : Int) ≤ 2) && numB 17 t.n && kidsB (fitsB h) 17 t.l.length 0 t.l) = _
  rw [show testB 17 t.s.data.toList = (t.s.data.toList.isEmpty) from rfl]
  rw [show numB 17 t.n = (t.n == 0) by simp [numB]]
theorem fits_18 (h : Nat) (t : Tree) (hk : t.op = 18) : fitsB (h + 1) t = (signB t.s.data.toList && decide ((2 : Int) ≤ t.l.length) && decide ((t.l.length : Int) ≤ 2) && (t.n == 0) && kidsB (fitsB h) 18 t.l.length 0 t.l) := by
  have e : fitsB (h + 1) t = fitStep (fitsB h) t := rfl
  rw [e]
  unfold fitStep
  rw [hk]
  show (testB 18 t.s.data.toList && decide ((2 : Int) ≤ t.l.length) && decide ((t.l.length : Int) ≤ 2) && numB 18 t.n && kidsB (fitsB h) 18 t.l.length 0 t.l) = _
  rw [show testB 18 t.s.data.toList = (signB t.s.data.toList) from rfl]
  rw [show numB 18 t.n = (t.n == 0) by simp [numB]]
theorem fits_19 (h : Nat) (t : Tree) (hk : t.op = 19) : fitsB (h + 1) t = (t.s.data.toList.isEmpty && decide ((1 : Int) ≤ t.l.length) && decide ((t.l.length : Int) ≤ 1) && (t.n == 0) && kidsB (fitsB h) 19 t.l.length 0 t.l) := by
  have e : fitsB (h + 1) t = fitStep (fitsB h) t := rfl
  rw [e]
  unfold fitStep
  rw [hk]
  show (testB 19 t.s.data.toList && decide ((1 : Int) ≤ t.l.length) && decide ((t.l.length : Int) ≤ 1) && numB 19 t.n && kidsB (fitsB h) 19 t.l.length 0 t.l) = _
  rw [show testB 19 t.s.data.toList = (t.s.data.toList.isEmpty) from rfl]
  rw [show numB 19 t.n = (t.n == 0) by simp [numB]]
theorem fits_20 (h : Nat) (t : Tree) (hk : t.op = 20) : fitsB (h + 1) t = (t.s.data.toList.isEmpty && decide ((1 : Int) ≤ t.l.length) && decide ((t.l.length : Int) ≤ 1) && (t.n == 0) && kidsB (fitsB h) 20 t.l.length 0 t.l) := by
  have e : fitsB (h + 1) t = fitStep (fitsB h) t := rfl
  rw [e]
  unfold fitStep
  rw [hk]
  show (testB 20 t.s.data.toList && decide ((1 : Int) ≤ t.l.length) && decide ((t.l.length : Int) ≤ 1) && numB 20 t.n && kidsB (fitsB h) 20 t.l.length 0 t.l) = _
  rw [show testB 20 t.s.data.toList = (t.s.data.toList.isEmpty) from rfl]
  rw [show numB 20 t.n = (t.n == 0) by simp [numB]]
theorem fits_21 (h : Nat) (t : Tree) (hk : t.op = 21) : fitsB (h + 1) t = (t.s.data.toList.isEmpty && decide ((2 : Int) ≤ t.l.length) && decide ((t.l.length : Int) ≤ 2) && (t.n == 0) && kidsB (fitsB h) 21 t.l.length 0 t.l) := by
  have e : fitsB (h + 1) t = fitStep (fitsB h) t := rfl
  rw [e]
  unfold fitStep
  rw [hk]
  show (testB 21 t.s.data.toList && decide ((2 : Int) ≤ t.l.length) && decide ((t.l.length : Int) ≤ 2) && numB 21 t.n && kidsB (fitsB h) 21 t.l.length 0 t.l) = _
  rw [show testB 21 t.s.data.toList = (t.s.data.toList.isEmpty) from rfl]
  rw [show numB 21 t.n = (t.n == 0) by simp [numB]]
theorem fits_22 (h : Nat) (t : Tree) (hk : t.op = 22) : fitsB (h + 1) t = (t.s.data.toList.isEmpty && decide ((2 : Int) ≤ t.l.length) && decide ((t.l.length : Int) ≤ 2) && (t.n == 0) && kidsB (fitsB h) 22 t.l.length 0 t.l) := by
  have e : fitsB (h + 1) t = fitStep (fitsB h) t := rfl
  rw [e]
  unfold fitStep
  rw [hk]
  show (testB 22 t.s.data.toList && decide ((2 : Int) ≤ t.l.length) && decide ((t.l.length : Int) ≤ 2) && numB 22 t.n && kidsB (fitsB h) 22 t.l.length 0 t.l) = _
  rw [show testB 22 t.s.data.toList = (t.s.data.toList.isEmpty) from rfl]
  rw [show numB 22 t.n = (t.n == 0) by simp [numB]]
theorem fits_23 (h : Nat) (t : Tree) (hk : t.op = 23) : fitsB (h + 1) t = (t.s.data.toList.isEmpty && decide ((3 : Int) ≤ t.l.length) && decide ((t.l.length : Int) ≤ 3) && (t.n == 0) && kidsB (fitsB h) 23 t.l.length 0 t.l) := by
  have e : fitsB (h + 1) t = fitStep (fitsB h) t := rfl
  rw [e]
  unfold fitStep
  rw [hk]
  show (testB 23 t.s.data.toList && decide ((3 : Int) ≤ t.l.length) && decide ((t.l.length : Int) ≤ 3) && numB 23 t.n && kidsB (fitsB h) 23 t.l.length 0 t.l) = _
  rw [show testB 23 t.s.data.toList = (t.s.data.toList.isEmpty) from rfl]
  rw [show numB 23 t.n = (t.n == 0) by simp [numB]]
theorem fits_30 (h : Nat) (t : Tree) (hk : t.op = 30) : fitsB (h + 1) t = (nameB t.s.data.toList && decide ((0 : Int) ≤ t.l.length) && decide ((t.l.length : Int) ≤ 1) && (t.n == 0) && kidsB (fitsB h) 30 t.l.length 0 t.l) := by
  have e : fitsB (h + 1) t = fitStep (fitsB h) t := rfl
  rw [e]
  unfold fitStep
  rw [hk]
  show (testB 30 t.s.data.toList && decide ((0 : Int) ≤ t.l.length) && decide ((t.l.length : Int) ≤ 1) && numB 30 t.n && kidsB (fitsB h) 30 t.l.length 0 t.l) = _
  rw [show testB 30 t.s.data.toList = (nameB t.s.data.toList) from rfl]
  rw [show numB 30 t.n = (t.n == 0) by simp [numB]]
theorem fits_31 (h : Nat) (t : Tree) (hk : t.op = 31) : fitsB (h + 1) t = (t.s.data.toList.isEmpty && decide ((1 : Int) ≤ t.l.length) && decide ((t.l.length : Int) ≤ 1) && (t.n == 0) && kidsB (fitsB h) 31 t.l.length 0 t.l) := by
  have e : fitsB (h + 1) t = fitStep (fitsB h) t := rfl
  rw [e]
  unfold fitStep
  rw [hk]
  show (testB 31 t.s.data.toList && decide ((1 : Int) ≤ t.l.length) && decide ((t.l.length : Int) ≤ 1) && numB 31 t.n && kidsB (fitsB h) 31 t.l.length 0 t.l) = _
  rw [show testB 31 t.s.data.toList = (t.s.data.toList.isEmpty) from rfl]
  rw [show numB 31 t.n = (t.n == 0) by simp [numB]]
theorem fits_32 (h : Nat) (t : Tree) (hk : t.op = 32) : fitsB (h + 1) t = (t.s.data.toList.isEmpty && decide ((0 : Int) ≤ t.l.length) && decide ((t.l.length : Int) ≤ 1073741824) && (t.n == 0) && kidsB (fitsB h) 32 t.l.length 0 t.l) := by
  have e : fitsB (h + 1) t = fitStep (fitsB h) t := rfl
  rw [e]
  unfold fitStep
  rw [hk]
  show (testB 32 t.s.data.toList && decide ((0 : Int) ≤ t.l.length) && decide ((t.l.length : Int) ≤ 1073741824) && numB 32 t.n && kidsB (fitsB h) 32 t.l.length 0 t.l) = _
  rw [show testB 32 t.s.data.toList = (t.s.data.toList.isEmpty) from rfl]
  rw [show numB 32 t.n = (t.n == 0) by simp [numB]]
theorem fits_33 (h : Nat) (t : Tree) (hk : t.op = 33) : fitsB (h + 1) t = (t.s.data.toList.isEmpty && decide ((2 : Int) ≤ t.l.length) && decide ((t.l.length : Int) ≤ 3) && (t.n == 0) && kidsB (fitsB h) 33 t.l.length 0 t.l) := by
  have e : fitsB (h + 1) t = fitStep (fitsB h) t := rfl
  rw [e]
  unfold fitStep
  rw [hk]
  show (testB 33 t.s.data.toList && decide ((2 : Int) ≤ t.l.length) && decide ((t.l.length : Int) ≤ 3) && numB 33 t.n && kidsB (fitsB h) 33 t.l.length 0 t.l) = _
  rw [show testB 33 t.s.data.toList = (t.s.data.toList.isEmpty) from rfl]
  rw [show numB 33 t.n = (t.n == 0) by simp [numB]]
theorem fits_34 (h : Nat) (t : Tree) (hk : t.op = 34) : fitsB (h + 1) t = (t.s.data.toList.isEmpty && decide ((2 : Int) ≤ t.l.length) && decide ((t.l.length : Int) ≤ 2) && (t.n == 0) && kidsB (fitsB h) 34 t.l.length 0 t.l) := by
  have e : fitsB (h + 1) t = fitStep (fitsB h) t := rfl
  rw [e]
  unfold fitStep
  rw [hk]
  show (testB 34 t.s.data.toList && decide ((2 : Int) ≤ t.l.length) && decide ((t.l.length : Int) ≤ 2) && numB 34 t.n && kidsB (fitsB h) 34 t.l.length 0 t.l) = _
  rw [show testB 34 t.s.data.toList = (t.s.data.toList.isEmpty) from rfl]
  rw [show numB 34 t.n = (t.n == 0) by simp [numB]]
theorem fits_35 (h : Nat) (t : Tree) (hk : t.op = 35) : fitsB (h + 1) t = (nameB t.s.data.toList && decide ((2 : Int) ≤ t.l.length) && decide ((t.l.length : Int) ≤ 2) && (t.n == 0) && kidsB (fitsB h) 35 t.l.length 0 t.l) := by
  have e : fitsB (h + 1) t = fitStep (fitsB h) t := rfl
  rw [e]
  unfold fitStep
  rw [hk]
  show (testB 35 t.s.data.toList && decide ((2 : Int) ≤ t.l.length) && decide ((t.l.length : Int) ≤ 2) && numB 35 t.n && kidsB (fitsB h) 35 t.l.length 0 t.l) = _
  rw [show testB 35 t.s.data.toList = (nameB t.s.data.toList) from rfl]
  rw [show numB 35 t.n = (t.n == 0) by simp [numB]]
theorem fits_36 (h : Nat) (t : Tree) (hk : t.op = 36) : fitsB (h + 1) t = (t.s.data.toList.isEmpty && decide ((0 : Int) ≤ t.l.length) && decide ((t.l.length : Int) ≤ 1) && (t.n == 0) && kidsB (fitsB h) 36 t.l.length 0 t.l) := by
  have e : fitsB (h + 1) t = fitStep (fitsB h) t := rfl
  rw [e]
  unfold fitStep
  rw [hk]
  show (testB 36 t.s.data.toList && decide ((0 : Int) ≤ t.l.length) && decide ((t.l.length : Int) ≤ 1) && numB 36 t.n && kidsB (fitsB h) 36 t.l.length 0 t.l) = _
  rw [show testB 36 t.s.data.toList = (t.s.data.toList.isEmpty) from rfl]
  rw [show numB 36 t.n = (t.n == 0) by simp [numB]]
theorem fits_37 (h : Nat) (t : Tree) (hk : t.op = 37) : fitsB (h + 1) t = (t.s.data.toList.isEmpty && decide ((1 : Int) ≤ t.l.length) && decide ((t.l.length : Int) ≤ 1) && (t.n == 0) && kidsB (fitsB h) 37 t.l.length 0 t.l) := by
  have e : fitsB (h + 1) t = fitStep (fitsB h) t := rfl
  rw [e]
  unfold fitStep
  rw [hk]
  show (testB 37 t.s.data.toList && decide ((1 : Int) ≤ t.l.length) && decide ((t.l.length : Int) ≤ 1) && numB 37 t.n && kidsB (fitsB h) 37 t.l.length 0 t.l) = _
  rw [show testB 37 t.s.data.toList = (t.s.data.toList.isEmpty) from rfl]
  rw [show numB 37 t.n = (t.n == 0) by simp [numB]]
theorem fits_38 (h : Nat) (t : Tree) (hk : t.op = 38) : fitsB (h + 1) t = (nameB t.s.data.toList && decide ((2 : Int) ≤ t.l.length) && decide ((t.l.length : Int) ≤ 2) && (t.n == 0) && kidsB (fitsB h) 38 t.l.length 0 t.l) := by
  have e : fitsB (h + 1) t = fitStep (fitsB h) t := rfl
  rw [e]
  unfold fitStep
  rw [hk]
  show (testB 38 t.s.data.toList && decide ((2 : Int) ≤ t.l.length) && decide ((t.l.length : Int) ≤ 2) && numB 38 t.n && kidsB (fitsB h) 38 t.l.length 0 t.l) = _
  rw [show testB 38 t.s.data.toList = (nameB t.s.data.toList) from rfl]
  rw [show numB 38 t.n = (t.n == 0) by simp [numB]]
theorem fits_39 (h : Nat) (t : Tree) (hk : t.op = 39) : fitsB (h + 1) t = (t.s.data.toList.isEmpty && decide ((0 : Int) ≤ t.l.length) && decide ((t.l.length : Int) ≤ 0) && (t.n == 0) && kidsB (fitsB h) 39 t.l.length 0 t.l) := by
  have e : fitsB (h + 1) t = fitStep (fitsB h) t := rfl
  rw [e]
  unfold fitStep
  rw [hk]
  show (testB 39 t.s.data.toList && decide ((0 : Int) ≤ t.l.length) && decide ((t.l.length : Int) ≤ 0) && numB 39 t.n && kidsB (fitsB h) 39 t.l.length 0 t.l) = _
  rw [show testB 39 t.s.data.toList = (t.s.data.toList.isEmpty) from rfl]
  rw [show numB 39 t.n = (t.n == 0) by simp [numB]]
theorem fits_40 (h : Nat) (t : Tree) (hk : t.op = 40) : fitsB (h + 1) t = (t.s.data.toList.isEmpty && decide ((0 : Int) ≤ t.l.length) && decide ((t.l.length : Int) ≤ 0) && (t.n == 0) && kidsB (fitsB h) 40 t.l.length 0 t.l) := by
  have e : fitsB (h + 1) t = fitStep (fitsB h) t := rfl
  rw [e]
  unfold fitStep
  rw [hk]
  show (testB 40 t.s.data.toList && decide ((0 : Int) ≤ t.l.length) && decide ((t.l.length : Int) ≤ 0) && numB 40 t.n && kidsB (fitsB h) 40 t.l.length 0 t.l) = _
  rw [show testB 40 t.s.data.toList = (t.s.data.toList.isEmpty) from rfl]
  rw [show numB 40 t.n = (t.n == 0) by simp [numB]]
theorem fits_41 (h : Nat) (t : Tree) (hk : t.op = 41) : fitsB (h + 1) t = (nameB t.s.data.toList && decide ((1 : Int) ≤ t.l.length) && decide ((t.l.length : Int) ≤ 201) && (t.n == 0) && kidsB (fitsB h) 41 t.l.length 0 t.l) := by
  have e : fitsB (h + 1) t = fitStep (fitsB h) t := rfl
  rw [e]
  unfold fitStep
  rw [hk]
  show (testB 41 t.s.data.toList && decide ((1 : Int) ≤ t.l.length) && decide ((t.l.length : Int) ≤ 201) && numB 41 t.n && kidsB (fitsB h) 41 t.l.length 0 t.l) = _
  rw [show testB 41 t.s.data.toList = (nameB t.s.data.toList) from rfl]
  rw [show numB 41 t.n = (t.n == 0) by simp [numB]]

end Go.Proofs.YtcidccifnaecaaaDoor

namespace Go.Proofs.YtcidccifnaecaaaDoor
open Go.RowKit

theorem and_len (T N K : Bool) (n c : Int) : (T && decide (c ≤ n) && decide (n ≤ c) && N && K) = (T && N && (n == c) && K) := by
  by_cases h : n = c
  · subst h
    cases T <;> cases N <;> simp
  · have h1 : (n == c) = false := by simpa using h
    have h2 : (decide (c ≤ n) && decide (n ≤ c)) = false := by
      rw [Bool.and_eq_false_iff]
      simp
      omega
    rw [h1, Bool.and_assoc T, h2]
    cases T <;> cases N <;> simp
theorem dec1 (n : Nat) : decide ((1 : Int) ≤ (n : Int)) = decide (1 ≤ n) := by
  rw [Bool.eq_iff_iff]
  simp only [decide_eq_true_eq]
  omega
theorem len_two {l : List Tree} (h : ((l.length : Int) == 2) = true) : ∃ a b, l = [a, b] := by
  match l, h with
  | [a, b], _ => exact ⟨a, b, rfl⟩
  | [], h => simp at h
  | [_], h => simp at h
  | _ :: _ :: _ :: _, h => simp at h; omega
theorem kids_none {R : Tree → Bool} {k : Int} {n : Nat} {l : List Tree} (h : ((l.length : Int) == 0) = true) : kidsB R k n 0 l = true := by
  have : l = [] := List.length_eq_zero_iff.1 (by simpa using h)
  rw [this]
  rfl
theorem and_none (T N : Bool) {R : Tree → Bool} {k : Int} {n : Nat} {l : List Tree} : (T && N && ((l.length : Int) == 0) && kidsB R k n 0 l) = (T && N && ((l.length : Int) == 0)) := by
  cases h : ((l.length : Int) == 0)
  · cases T <;> cases N <;> simp
  · rw [kids_none h]
    cases T <;> cases N <;> rfl
theorem kids_exprs {h : Nat} {k : Int} {n : Nat} {l : List Tree} (hk : ∀ j op, partB k n j op = exprK op) : kidsB (fitsB h) k n 0 l = allB h l :=
  kids_all (fun j op _ _ => hk j op)
def pairB (h : Nat) (p : Tree) : Bool := p.op == 12 && (p.n == 0) && ((p.l.length : Int) == 1) && (match h with | 0 => false | h + 1 => p.l.all (exprB h))
theorem pair_eq (h : Nat) (p : Tree) : (p.op == 12 && fitsB h p) = pairB h p := by
  cases hp : (p.op == 12)
  · simp [pairB, hp]
  · have hk : p.op = 12 := by simpa using hp
    cases h with
    | zero => simp [pairB, fitsB]
    | succ h =>
      rw [fits_12 h p hk, and_len, kids_exprs (fun j op => by simp [partB])]
      simp [pairB, hp, allB]
def headB (l : List Tree) : Bool := match l with | [] => false | a :: _ => a.op == 1 || a.op == 13 || a.op == 14
def twoB (A B : Tree → Bool) (l : List Tree) : Bool := match l with | [a, b] => A a && B b | _ => false
def ifB (h : Nat) (l : List Tree) : Bool := match l with | [a, b] => exprB h a && blockB h b | [a, b, c] => exprB h a && blockB h b && blockB h c | _ => false
theorem two_len {A B : Tree → Bool} {l : List Tree} (h : ((l.length : Int) == 2) = false) : twoB A B l = false := by
  match l, h with
  | [], _ => rfl
  | [_], _ => rfl
  | [_, _], h => simp at h
  | _ :: _ :: _ :: _, _ => rfl
theorem head_expr {a : Tree} (h : (a.op == 1 || a.op == 13 || a.op == 14) = true) : exprK a.op = true := by
  simp at h
  rcases h with (h | h) | h <;> rw [h] <;> rfl
theorem form_1 (h : Nat) (t : Tree) (hk : t.op = 1) : exprB (h + 1) t = (nameB t.s.data.toList && (t.n == 0) && ((t.l.length : Int) == 0)) := by
  rw [exprB, hk, show exprK 1 = true from rfl, Bool.true_and, fits_1 h t hk]
  rw [and_len, and_none]
theorem form_2 (h : Nat) (t : Tree) (hk : t.op = 2) : exprB (h + 1) t = (t.s.data.toList.isEmpty && decide (0 ≤ t.n) && decide (t.n ≤ 999999999999999) && ((t.l.length : Int) == 0)) := by
  rw [exprB, hk, show exprK 2 = true from rfl, Bool.true_and, fits_2 h t hk]
  rw [and_len, and_none]
  have : numB 2 t.n = (decide (0 ≤ t.n) && decide (t.n ≤ 999999999999999)) := by
    rw [Bool.eq_iff_iff]
    simp [numB]
    omega
  rw [this]
  simp only [Bool.and_assoc]
theorem form_3 (h : Nat) (t : Tree) (hk : t.op = 3) : exprB (h + 1) t = ((t.n == 0) && ((t.l.length : Int) == 0)) := by
  rw [exprB, hk, show exprK 3 = true from rfl, Bool.true_and, fits_3 h t hk]
  rw [and_len, and_none]
  rfl
theorem form_4 (h : Nat) (t : Tree) (hk : t.op = 4) : exprB (h + 1) t = (t.s.data.toList.isEmpty && (t.n == 0) && ((t.l.length : Int) == 0)) := by
  rw [exprB, hk, show exprK 4 = true from rfl, Bool.true_and, fits_4 h t hk]
  rw [and_len, and_none]
theorem form_5 (h : Nat) (t : Tree) (hk : t.op = 5) : exprB (h + 1) t = (t.s.data.toList.isEmpty && (t.n == 0) && ((t.l.length : Int) == 0)) := by
  rw [exprB, hk, show exprK 5 = true from rfl, Bool.true_and, fits_5 h t hk]
  rw [and_len, and_none]
theorem form_6 (h : Nat) (t : Tree) (hk : t.op = 6) : exprB (h + 1) t = (t.s.data.toList.isEmpty && (t.n == 0) && ((t.l.length : Int) == 0)) := by
  rw [exprB, hk, show exprK 6 = true from rfl, Bool.true_and, fits_6 h t hk]
  rw [and_len, and_none]
theorem form_7 (h : Nat) (t : Tree) (hk : t.op = 7) : exprB (h + 1) t = (t.s.data.toList.isEmpty && (t.n == 0) && ((t.l.length : Int) == 0)) := by
  rw [exprB, hk, show exprK 7 = true from rfl, Bool.true_and, fits_7 h t hk]
  rw [and_len, and_none]
theorem form_8 (h : Nat) (t : Tree) (hk : t.op = 8) : exprB (h + 1) t = (t.s.data.toList.isEmpty && (t.n == 0) && ((t.l.length : Int) == 0)) := by
  rw [exprB, hk, show exprK 8 = true from rfl, Bool.true_and, fits_8 h t hk]
  rw [and_len, and_none]
theorem form_9 (h : Nat) (t : Tree) (hk : t.op = 9) : exprB (h + 1) t = (t.s.data.toList.isEmpty && (t.n == 0) && ((t.l.length : Int) == 0)) := by
  rw [exprB, hk, show exprK 9 = true from rfl, Bool.true_and, fits_9 h t hk]
  rw [and_len, and_none]
theorem form_10 (h : Nat) (t : Tree) (hk : t.op = 10) : exprB (h + 1) t = ((t.s.data.toList.isEmpty || nameB t.s.data.toList) && (t.n == 0) && funB h t.l) := by
  rw [exprB, hk, show exprK 10 = true from rfl, Bool.true_and, fits_10 h t hk]
  unfold funB
  cases h1 : decide ((1 : Int) ≤ t.l.length)
  · have h2 : decide (1 ≤ t.l.length) = false := (dec1 _).symm.trans h1
    rw [h2]
    simp
  · have h2 : decide (1 ≤ t.l.length) = true := (dec1 _).symm.trans h1
    have h3 : decide ((t.l.length : Int) ≤ 201) = decide (t.l.length ≤ 201) := by rw [Bool.eq_iff_iff]; simp; omega
    rw [h2, h3, kids_fun (.inl rfl) (by omega) (by simpa using h2)]
    cases (t.s.data.toList.isEmpty || nameB t.s.data.toList) <;> cases decide (t.l.length ≤ 201) <;> cases (t.n == 0) <;> cases lastB h t.l <;> rfl
theorem form_11 (h : Nat) (t : Tree) (hk : t.op = 11) : exprB (h + 1) t = (t.s.data.toList.isEmpty && (t.n == 0) && !decide (200 < (t.l.length : Int)) && t.l.all (pairB h)) := by
  rw [exprB, hk, show exprK 11 = true from rfl, Bool.true_and, fits_11 h t hk]
  rw [kids_all (q := fun op => op == 12) (fun j op _ _ => by simp [partB])]
  rw [show (fun u : Tree => u.op == 12 && fitsB h u) = pairB h from funext (pair_eq h)]
  have h1 : decide ((0 : Int) ≤ t.l.length) = true := by simp
  have h2 : decide ((t.l.length : Int) ≤ 200) = !decide (200 < (t.l.length : Int)) := by rw [Bool.eq_iff_iff]; simp
  rw [h1, h2]
  cases t.s.data.toList.isEmpty <;> cases decide (200 < (t.l.length : Int)) <;> cases (t.n == 0) <;> rfl
theorem form_13 (h : Nat) (t : Tree) (hk : t.op = 13) : exprB (h + 1) t = ((nameB t.s.data.toList || wordB t.s.data.toList) && (t.n == 0) && ((t.l.length : Int) == 1) && allB h t.l) := by
  rw [exprB, hk, show exprK 13 = true from rfl, Bool.true_and, fits_13 h t hk]
  rw [and_len, kids_exprs (fun j op => by simp [partB])]
theorem form_14 (h : Nat) (t : Tree) (hk : t.op = 14) : exprB (h + 1) t = (t.s.data.toList.isEmpty && (t.n == 0) && ((t.l.length : Int) == 2) && allB h t.l) := by
  rw [exprB, hk, show exprK 14 = true from rfl, Bool.true_and, fits_14 h t hk]
  rw [and_len, kids_exprs (fun j op => by simp [partB])]
theorem form_21 (h : Nat) (t : Tree) (hk : t.op = 21) : exprB (h + 1) t = (t.s.data.toList.isEmpty && (t.n == 0) && ((t.l.length : Int) == 2) && allB h t.l) := by
  rw [exprB, hk, show exprK 21 = true from rfl, Bool.true_and, fits_21 h t hk]
  rw [and_len, kids_exprs (fun j op => by simp [partB])]
theorem form_22 (h : Nat) (t : Tree) (hk : t.op = 22) : exprB (h + 1) t = (t.s.data.toList.isEmpty && (t.n == 0) && ((t.l.length : Int) == 2) && allB h t.l) := by
  rw [exprB, hk, show exprK 22 = true from rfl, Bool.true_and, fits_22 h t hk]
  rw [and_len, kids_exprs (fun j op => by simp [partB])]
theorem form_19 (h : Nat) (t : Tree) (hk : t.op = 19) : exprB (h + 1) t = (t.s.data.toList.isEmpty && (t.n == 0) && ((t.l.length : Int) == 1) && allB h t.l) := by
  rw [exprB, hk, show exprK 19 = true from rfl, Bool.true_and, fits_19 h t hk]
  rw [and_len, kids_exprs (fun j op => by simp [partB])]
theorem form_20 (h : Nat) (t : Tree) (hk : t.op = 20) : exprB (h + 1) t = (t.s.data.toList.isEmpty && (t.n == 0) && ((t.l.length : Int) == 1) && allB h t.l) := by
  rw [exprB, hk, show exprK 20 = true from rfl, Bool.true_and, fits_20 h t hk]
  rw [and_len, kids_exprs (fun j op => by simp [partB])]
theorem form_23 (h : Nat) (t : Tree) (hk : t.op = 23) : exprB (h + 1) t = (t.s.data.toList.isEmpty && (t.n == 0) && ((t.l.length : Int) == 3) && allB h t.l) := by
  rw [exprB, hk, show exprK 23 = true from rfl, Bool.true_and, fits_23 h t hk]
  rw [and_len, kids_exprs (fun j op => by simp [partB])]
theorem form_15 (h : Nat) (t : Tree) (hk : t.op = 15) : exprB (h + 1) t = (t.s.data.toList.isEmpty && (t.n == 0) && decide ((1 : Int) ≤ t.l.length) && decide ((t.l.length : Int) ≤ 200) && allB h t.l) := by
  rw [exprB, hk, show exprK 15 = true from rfl, Bool.true_and, fits_15 h t hk]
  rw [kids_exprs (fun j op => by simp [partB])]
  cases t.s.data.toList.isEmpty <;> cases (t.n == 0) <;> cases decide ((1 : Int) ≤ t.l.length) <;> cases decide ((t.l.length : Int) ≤ 200) <;> rfl
theorem form_16 (h : Nat) (t : Tree) (hk : t.op = 16) : exprB (h + 1) t = (t.s.data.toList.isEmpty && (t.n == 0) && decide ((1 : Int) ≤ t.l.length) && decide ((t.l.length : Int) ≤ 200) && allB h t.l) := by
  rw [exprB, hk, show exprK 16 = true from rfl, Bool.true_and, fits_16 h t hk]
  rw [kids_exprs (fun j op => by simp [partB])]
  cases t.s.data.toList.isEmpty <;> cases (t.n == 0) <;> cases decide ((1 : Int) ≤ t.l.length) <;> cases decide ((t.l.length : Int) ≤ 200) <;> rfl
theorem form_17 (h : Nat) (t : Tree) (hk : t.op = 17) : exprB (h + 1) t = (t.s.data.toList.isEmpty && (t.n == 0) && ((t.l.length : Int) == 2) && allB h t.l && headB t.l) := by
  rw [exprB, hk, show exprK 17 = true from rfl, Bool.true_and, fits_17 h t hk]
  rw [and_len]
  cases h2 : ((t.l.length : Int) == 2)
  · simp
  · obtain ⟨a, b, hl⟩ : ∃ a b, t.l = [a, b] := len_two h2
    rw [hl]
    simp only [kidsB, allB, headB, List.all_cons, List.all_nil, exprB, partB]
    cases h3 : (a.op == 1 || a.op == 13 || a.op == 14)
    · simp
    · rw [head_expr h3]
      simp
theorem form_18 (h : Nat) (t : Tree) (hk : t.op = 18) : exprB (h + 1) t = (signB t.s.data.toList && (t.n == 0) && ((t.l.length : Int) == 2) && allB h t.l) := by
  rw [exprB, hk, show exprK 18 = true from rfl, Bool.true_and, fits_18 h t hk]
  rw [and_len, kids_exprs (fun j op => by simp [partB])]
theorem form_30 (h : Nat) (t : Tree) (hk : t.op = 30) : stmtB (h + 1) t = ((t.n == 0) && (nameB t.s.data.toList && decide ((t.l.length : Int) ≤ 1) && allB h t.l)) := by
  rw [stmtB, hk, show stmtK 30 = true from rfl, Bool.true_and, fits_30 h t hk]
  rw [kids_exprs (fun j op => by simp [partB]), show decide ((0 : Int) ≤ t.l.length) = true by simp]
  cases nameB t.s.data.toList <;> cases (t.n == 0) <;> cases decide ((t.l.length : Int) ≤ 1) <;> rfl
theorem form_31 (h : Nat) (t : Tree) (hk : t.op = 31) : stmtB (h + 1) t = ((t.n == 0) && (t.s.data.toList.isEmpty && ((t.l.length : Int) == 1) && allB h t.l)) := by
  rw [stmtB, hk, show stmtK 31 = true from rfl, Bool.true_and, fits_31 h t hk]
  rw [and_len, kids_exprs (fun j op => by simp [partB])]
  cases t.s.data.toList.isEmpty <;> cases (t.n == 0) <;> rfl
theorem form_37 (h : Nat) (t : Tree) (hk : t.op = 37) : stmtB (h + 1) t = ((t.n == 0) && (t.s.data.toList.isEmpty && ((t.l.length : Int) == 1) && allB h t.l)) := by
  rw [stmtB, hk, show stmtK 37 = true from rfl, Bool.true_and, fits_37 h t hk]
  rw [and_len, kids_exprs (fun j op => by simp [partB])]
  cases t.s.data.toList.isEmpty <;> cases (t.n == 0) <;> rfl
theorem form_36 (h : Nat) (t : Tree) (hk : t.op = 36) : stmtB (h + 1) t = ((t.n == 0) && (t.s.data.toList.isEmpty && decide ((t.l.length : Int) ≤ 1) && allB h t.l)) := by
  rw [stmtB, hk, show stmtK 36 = true from rfl, Bool.true_and, fits_36 h t hk]
  rw [kids_exprs (fun j op => by simp [partB]), show decide ((0 : Int) ≤ t.l.length) = true by simp]
  cases t.s.data.toList.isEmpty <;> cases (t.n == 0) <;> cases decide ((t.l.length : Int) ≤ 1) <;> rfl
theorem form_39 (h : Nat) (t : Tree) (hk : t.op = 39) : stmtB (h + 1) t = ((t.n == 0) && (t.s.data.toList.isEmpty && ((t.l.length : Int) == 0))) := by
  rw [stmtB, hk, show stmtK 39 = true from rfl, Bool.true_and, fits_39 h t hk]
  rw [and_len, and_none]
  cases t.s.data.toList.isEmpty <;> cases (t.n == 0) <;> rfl
theorem form_40 (h : Nat) (t : Tree) (hk : t.op = 40) : stmtB (h + 1) t = ((t.n == 0) && (t.s.data.toList.isEmpty && ((t.l.length : Int) == 0))) := by
  rw [stmtB, hk, show stmtK 40 = true from rfl, Bool.true_and, fits_40 h t hk]
  rw [and_len, and_none]
  cases t.s.data.toList.isEmpty <;> cases (t.n == 0) <;> rfl
theorem form_32 (h : Nat) (t : Tree) (hk : t.op = 32) (hm : t.l.length ≤ 1073741824) : stmtB (h + 1) t = ((t.n == 0) && (t.l.all (stmtB h) && t.s.data.toList.isEmpty)) := by
  rw [stmtB, hk, show stmtK 32 = true from rfl, Bool.true_and, fits_32 h t hk]
  rw [kids_all (q := stmtK) (fun j op _ _ => by simp [partB])]
  have h2 : decide ((t.l.length : Int) ≤ 1073741824) = true := by simp; omega
  rw [show decide ((0 : Int) ≤ t.l.length) = true by simp, h2]
  show _ = ((t.n == 0) && ((t.l.all fun u => stmtK u.op && fitsB h u) && t.s.data.toList.isEmpty))
  cases t.s.data.toList.isEmpty <;> cases (t.n == 0) <;> simp
theorem form_33 (h : Nat) (t : Tree) (hk : t.op = 33) : stmtB (h + 1) t = ((t.n == 0) && (t.s.data.toList.isEmpty && ifB h t.l)) := by
  rw [stmtB, hk, show stmtK 33 = true from rfl, Bool.true_and, fits_33 h t hk]
  match hl : t.l with
  | [] => cases t.s.data.toList.isEmpty <;> cases (t.n == 0) <;> rfl
  | [_] => cases t.s.data.toList.isEmpty <;> cases (t.n == 0) <;> rfl
  | [a, b] =>
    simp [kidsB, partB, ifB, exprB, blockB]
    cases t.s.data.toList.isEmpty <;> cases (t.n == 0) <;> simp [Bool.and_assoc]
  | [a, b, c] =>
    simp [kidsB, partB, ifB, exprB, blockB]
    cases t.s.data.toList.isEmpty <;> cases (t.n == 0) <;> simp [Bool.and_assoc]
  | a :: b :: c :: d :: r =>
    have : decide (((a :: b :: c :: d :: r).length : Int) ≤ 3) = false := by simp; omega
    rw [this]
    cases t.s.data.toList.isEmpty <;> cases (t.n == 0) <;> simp [ifB]
theorem form_34 (h : Nat) (t : Tree) (hk : t.op = 34) : stmtB (h + 1) t = ((t.n == 0) && (t.s.data.toList.isEmpty && twoB (exprB h) (blockB h) t.l)) := by
  rw [stmtB, hk, show stmtK 34 = true from rfl, Bool.true_and, fits_34 h t hk]
  rw [and_len]
  cases h2 : ((t.l.length : Int) == 2)
  · rw [two_len h2]
    simp
  · obtain ⟨a, b, hl⟩ : ∃ a b, t.l = [a, b] := len_two h2
    rw [hl]
    simp only [kidsB, twoB, exprB, blockB, partB]
    cases t.s.data.toList.isEmpty <;> cases (t.n == 0) <;> simp [Bool.and_assoc]
theorem form_35 (h : Nat) (t : Tree) (hk : t.op = 35) : stmtB (h + 1) t = ((t.n == 0) && (nameB t.s.data.toList && twoB (exprB h) (blockB h) t.l)) := by
  rw [stmtB, hk, show stmtK 35 = true from rfl, Bool.true_and, fits_35 h t hk]
  rw [and_len]
  cases h2 : ((t.l.length : Int) == 2)
  · rw [two_len h2]
    simp
  · obtain ⟨a, b, hl⟩ : ∃ a b, t.l = [a, b] := len_two h2
    rw [hl]
    simp only [kidsB, twoB, exprB, blockB, partB]
    cases nameB t.s.data.toList <;> cases (t.n == 0) <;> simp [Bool.and_assoc]
theorem form_38 (h : Nat) (t : Tree) (hk : t.op = 38) : stmtB (h + 1) t = ((t.n == 0) && (nameB t.s.data.toList && twoB (blockB h) (blockB h) t.l)) := by
  rw [stmtB, hk, show stmtK 38 = true from rfl, Bool.true_and, fits_38 h t hk]
  rw [and_len]
  cases h2 : ((t.l.length : Int) == 2)
  · rw [two_len h2]
    simp
  · obtain ⟨a, b, hl⟩ : ∃ a b, t.l = [a, b] := len_two h2
    rw [hl]
    simp only [kidsB, twoB, blockB, partB]
    cases nameB t.s.data.toList <;> cases (t.n == 0) <;> simp [Bool.and_assoc]
theorem form_41 (h : Nat) (t : Tree) (hk : t.op = 41) : stmtB (h + 1) t = ((t.n == 0) && (nameB t.s.data.toList && funB h t.l)) := by
  rw [stmtB, hk, show stmtK 41 = true from rfl, Bool.true_and, fits_41 h t hk]
  unfold funB
  cases h1 : decide ((1 : Int) ≤ t.l.length)
  · have h2 : decide (1 ≤ t.l.length) = false := (dec1 _).symm.trans h1
    rw [h2]
    simp
  · have h2 : decide (1 ≤ t.l.length) = true := (dec1 _).symm.trans h1
    have h3 : decide ((t.l.length : Int) ≤ 201) = decide (t.l.length ≤ 201) := by rw [Bool.eq_iff_iff]; simp; omega
    rw [h2, h3, kids_fun (.inr rfl) (by omega) (by simpa using h2)]
    cases nameB t.s.data.toList <;> cases decide (t.l.length ≤ 201) <;> cases (t.n == 0) <;> cases lastB h t.l <;> rfl

end Go.Proofs.YtcidccifnaecaaaDoor

namespace Go.Proofs.YtcidccifnaecaaaDoor
open Go.RowKit

theorem count_at : ∀ {l : List Tree} {k : Nat} {u : Tree}, l[k]? = some u → u.count ≤ counts l
  | t :: ts, 0, u, h => by
    simp at h
    subst h
    simp [counts]
  | t :: ts, k + 1, u, h => by
    have := count_at (l := ts) (k := k) (u := u) (by simpa using h)
    simp only [counts]
    omega
  | [], _, _, h => by simp at h
theorem count_eq (t : Tree) : t.count = counts t.l + 1 := by cases t; simp [Tree.count, Tree.l]
theorem count_pos (t : Tree) : 1 ≤ t.count := by rw [count_eq]; omega
theorem len_counts : ∀ (l : List Tree), l.length ≤ counts l
  | [] => by simp
  | t :: ts => by
    have h1 := len_counts ts
    have h2 := count_pos t
    simp only [counts, List.length_cons]
    omega

def ExprR (h : Nat) : Prop := ∀ (d : Nat) (w : World) (t : Tree) (sl : Value), Kids w d t.l sl → t.ok → t.count ≤ 1073741824 →
  Calls Tryd.prog 48 #[.agg #[.int .i64 t.op, .string t.s, .int .i64 t.n, sl, .int .i64 t.line], .int .i64 h] w fun e w' => e = .returned (.bool (exprB h t)) ∧ Below w.heap.size w w'
def StmtR (h : Nat) : Prop := ∀ (d : Nat) (w : World) (t : Tree) (sl : Value), Kids w d t.l sl → t.ok → t.count ≤ 1073741824 →
  Calls Tryd.prog 71 #[.agg #[.int .i64 t.op, .string t.s, .int .i64 t.n, sl, .int .i64 t.line], .int .i64 h] w fun e w' => e = .returned (.bool (stmtB h t)) ∧ Below w.heap.size w w'
def BlockR (h : Nat) : Prop := ∀ (d : Nat) (w : World) (t : Tree) (sl : Value), Kids w d t.l sl → t.ok → t.count ≤ 1073741824 →
  Calls Tryd.prog 46 #[.agg #[.int .i64 t.op, .string t.s, .int .i64 t.n, sl, .int .i64 t.line], .int .i64 h] w fun e w' => e = .returned (.bool (blockB h t)) ∧ Below w.heap.size w w'
def AllR (h : Nat) : Prop := ∀ (d : Nat) (w : World) (l : List Tree) (sl : Value), Kids w d l sl → counts l ≤ 1073741824 →
  Calls Tryd.prog 73 #[sl, .int .i64 h] w fun e w' => e = .returned (.bool (allB h l)) ∧ Below w.heap.size w w'
def FunR (h : Nat) : Prop := ∀ (d : Nat) (w : World) (l : List Tree) (sl : Value), Kids w d l sl → counts l ≤ 1073741824 →
  Calls Tryd.prog 72 #[sl, .int .i64 h] w fun e w' => e = .returned (.bool (funB h l)) ∧ Below w.heap.size w w'

theorem drop_at {l : List Tree} {k : Nat} {u : Tree} (h : l[k]? = some u) : l.drop k = u :: l.drop (k + 1) := by
  obtain ⟨hi, rfl⟩ := List.getElem?_eq_some_iff.1 h
  exact List.drop_eq_getElem_cons hi

set_option maxRecDepth 100000 in
set_option maxHeartbeats 2000000 in
theorem all_step (h : Nat) (ie : ExprR h) : AllR h := by
  intro d w l sl hk hct
  obtain ⟨hlen, A, c, rfl⟩ := hk.form
  unfold maxLen at hlen
  have IE := Lib.hid ie
  have HK := Lib.hid hk
  have HCT := Lib.hid hct
  clear ie hk hct
  go_enter Tryd.func73, Tryd.ntmps73
  go_wp2
  go_loopw [5] (fun i wr => ∃ k : Nat, k ≤ l.length ∧ i = .int .i64 k ∧ allB h l = allB h (l.drop k) ∧ Below w.heap.size w wr) (fun i _ => l.length - (intOf i).toNat)
  case atStart => exact ⟨0, by omega, rfl, rfl, Below.refl _ _⟩
  case round =>
    obtain ⟨k, hkl, rfl, hal, hb⟩ := hrel
    have HAL := Lib.hid hal
    have HB := Lib.hid hb
    clear hal hb
    by_cases hlt : k < l.length
    · have hu : l[k]? = some l[k] := List.getElem?_eq_getElem hlt
      generalize l[k] = u at hu
      obtain ⟨p, su, d1, hd1, rfl, hpu, hku, huk⟩ := HK.out.at_ hu
      obtain ⟨_, A3, c3, rfl⟩ := hku.form
      have HKU := Lib.hid (hku.below HB.out)
      have HOU := Lib.hid huk
      have HCU := Lib.hid (Nat.le_trans (count_at hu) HCT.out)
      have HN : Hid (allB h l = (exprB h u && allB h (l.drop (k + 1)))) := Lib.hid (by rw [HAL.out, drop_at hu]; rfl)
      obtain ⟨a0, a1, a2, a3, a4⟩ := hpu.below HB.out
      clear hu hpu hku huk
      go_wp2_with fail
      refine (IE.out d1 wr u _ HKU.out HOU.out HCU.out).mono ?_
      rintro e w' ⟨rfl, hb'⟩
      have HB' := Lib.hid (HB.out.trans (hb'.mono HB.out.size))
      clear hb' a0 a1 a2 a3 a4
      cases hab : exprB h u with
      | true =>
        have HN' := Lib.hid (HN.out.trans (by rw [hab]; rfl : _ = allB h (l.drop (k + 1))))
        clear hab
        go_wp2
        go_roundw
        case rel => exact ⟨k + 1, by omega, by go_num, HN'.out, HB'.out⟩
        case measure => simp [intOf]; omega
      | false =>
        have HF := Lib.hid (HN.out.trans (by rw [hab]; rfl : _ = false))
        clear hab
        go_wp2
        go_ret
        exact ⟨by rw [HF.out]; rfl, HB'.out⟩
    · obtain rfl : k = l.length := by omega
      have hdd : decide ((l.length : Int) < (l.length : Int)) = false := by simp
      have HT : Hid (allB h l = true) := Lib.hid (by rw [HAL.out, List.drop_length]; rfl)
      go_wp2
      go_ret
      exact ⟨by rw [HT.out]; rfl, HB.out⟩

set_option maxRecDepth 100000 in
set_option maxHeartbeats 2000000 in
theorem block_step (h : Nat) (is_ : StmtR h) : BlockR h := by
  intro d w t sl hk hok hct
  obtain ⟨_, A, c, rfl⟩ := hk.form
  obtain ⟨w0, hw0⟩ : ∃ w0, w.alloc (.cells #[.int .i64 t.op, .string t.s, .int .i64 t.n, .slice A t.l.length c, .int .i64 t.line] 24) = w0 := ⟨_, rfl⟩
  have bx : Blk5 w0 w.heap.size t.op t.s t.n (.slice A t.l.length c) t.line := by rw [← hw0]; exact blk5_new _ _ _ _ _ _
  have hb0 : Below w.heap.size w w0 := by rw [← hw0]; exact (Below.refl _ _).alloc (Nat.le_refl _) _
  have HB0 := Lib.hid hb0
  have HI := Lib.hid (is_ d w0 t _ (hk.below hb0) hok hct)
  have hst : t.op = 32 → blockB h t = stmtB h t := fun h32 => by rw [blockB, stmtB, h32]; rfl
  obtain ⟨c0, c1, c2, c3, c4⟩ := bx
  clear hb0 hk hok hct is_
  cases h32 : (t.op == 32) with
  | false =>
    have HF : Hid (blockB h t = false) := Lib.hid (by rw [blockB, h32]; rfl)
    clear hst
    go_enter Tryd.func46, Tryd.ntmps46
    go_wp2
    go_ret
    exact ⟨by rw [HF.out]; rfl, HB0.out⟩
  | true =>
    have HT := Lib.hid (hst (by simpa using h32))
    clear hst
    go_enter Tryd.func46, Tryd.ntmps46
    go_wp2_with fail
    refine HI.out.mono ?_
    rintro e w1 ⟨rfl, hb1⟩
    have HB1 := Lib.hid hb1
    clear hb1
    go_wp2
    go_ret
    exact ⟨by rw [HT.out]; rfl, HB0.out.trans (HB1.out.mono HB0.out.size)⟩

theorem last_at {h : Nat} : ∀ {l : List Tree} {k : Nat} {u : Tree}, l[k]? = some u → k + 1 < l.length → lastB h (l.drop k) = ((u.op == 1 && exprB h u) && lastB h (l.drop (k + 1))) := by
  intro l k u hu hk
  rw [drop_at hu]
  obtain ⟨v, hv⟩ : ∃ v, l[k + 1]? = some v := ⟨_, List.getElem?_eq_getElem hk⟩
  rw [drop_at hv, lastB]
  simp
theorem last_end {h : Nat} {l : List Tree} {k : Nat} {u : Tree} (hu : l[k]? = some u) (hk : k + 1 = l.length) : lastB h (l.drop k) = blockB h u := by
  rw [drop_at hu, List.drop_eq_nil_of_le (by omega)]
  rfl

set_option maxRecDepth 100000 in
set_option maxHeartbeats 2000000 in
theorem fun_step (h : Nat) (ie : ExprR h) (ib : BlockR h) : FunR h := by
  intro d w l sl hk hct
  obtain ⟨hlen, A, c, rfl⟩ := hk.form
  unfold maxLen at hlen
  have IE := Lib.hid ie
  have IB := Lib.hid ib
  have HK := Lib.hid hk
  have HCT := Lib.hid hct
  clear ie ib hk hct
  cases h1 : decide ((l.length : Int) < 1) with
  | true =>
    have HF : Hid (funB h l = false) := Lib.hid (by rw [funB, decide_eq_false (show ¬ 1 ≤ l.length by have := of_decide_eq_true h1; omega)]; rfl)
    go_enter Tryd.func72, Tryd.ntmps72
    go_wp2
    go_ret
    exact ⟨by rw [HF.out]; rfl, Below.refl _ _⟩
  | false =>
  cases h2 : decide (201 < (l.length : Int)) with
  | true =>
    have HF : Hid (funB h l = false) := Lib.hid (by rw [funB, decide_eq_false (show ¬ l.length ≤ 201 by have := of_decide_eq_true h2; omega), Bool.and_false]; rfl)
    go_enter Tryd.func72, Tryd.ntmps72
    go_wp2
    go_ret
    exact ⟨by rw [HF.out]; rfl, Below.refl _ _⟩
  | false =>
  have hl1 : 1 ≤ l.length := by have := of_decide_eq_false h1; omega
  have hl2 : l.length ≤ 201 := by have := of_decide_eq_false h2; omega
  have HE : Hid (funB h l = lastB h l) := Lib.hid (by rw [funB, decide_eq_true hl1, decide_eq_true hl2]; rfl)
  go_enter Tryd.func72, Tryd.ntmps72
  go_wp2
  go_loopw [5] (fun i wr => ∃ k : Nat, k + 1 ≤ l.length ∧ i = .int .i64 k ∧ lastB h l = lastB h (l.drop k) ∧ Below w.heap.size w wr) (fun i _ => l.length - (intOf i).toNat)
  case atStart => exact ⟨0, by omega, rfl, rfl, Below.refl _ _⟩
  case round =>
    obtain ⟨k, hkl, rfl, hal, hb⟩ := hrel
    have HAL := Lib.hid hal
    have HB := Lib.hid hb
    clear hal hb
    have hu : l[k]? = some l[k] := List.getElem?_eq_getElem (by omega)
    generalize l[k] = u at hu
    obtain ⟨p, su, d1, hd1, rfl, hpu, hku, huk⟩ := HK.out.at_ hu
    obtain ⟨_, A3, c3, rfl⟩ := hku.form
    have HKU := Lib.hid (hku.below HB.out)
    have HOU := Lib.hid huk
    have HCU := Lib.hid (Nat.le_trans (count_at hu) HCT.out)
    have HU := Lib.hid hu
    obtain ⟨a0, a1, a2, a3, a4⟩ := hpu.below HB.out
    clear hu hpu hku huk
    by_cases hlt : k + 1 < l.length
    · have HN : Hid (lastB h l = ((u.op == 1 && exprB h u) && lastB h (l.drop (k + 1)))) := Lib.hid (HAL.out.trans (last_at HU.out hlt))
      have hdd : decide ((k : Int) < (l.length : Int) - 1) = true := by simp; omega
      cases ho : (u.op == 1) with
      | false =>
        have hob : (u.op != 1) = true := by rw [bne, ho]; rfl
        have HF := Lib.hid (HN.out.trans (by rw [ho]; rfl : _ = false))
        go_wp2
        go_ret
        exact ⟨by rw [HE.out, HF.out]; rfl, HB.out⟩
      | true =>
        have hob : (u.op != 1) = false := by rw [bne, ho]; rfl
        go_wp2_with fail
        refine (IE.out d1 wr u _ HKU.out HOU.out HCU.out).mono ?_
        rintro e w' ⟨rfl, hb'⟩
        have HB' := Lib.hid (HB.out.trans (hb'.mono HB.out.size))
        clear hb' a0 a1 a2 a3 a4
        cases hab : exprB h u with
        | true =>
          have HN' := Lib.hid (HN.out.trans (by rw [hab, ho]; rfl : _ = lastB h (l.drop (k + 1))))
          clear hab
          go_wp2
          go_roundw
          case rel => exact ⟨k + 1, by omega, by go_num, HN'.out, HB'.out⟩
          case measure => simp [intOf]; omega
        | false =>
          have HF := Lib.hid (HN.out.trans (by rw [hab, ho]; rfl : _ = false))
          clear hab
          go_wp2
          go_ret
          exact ⟨by rw [HE.out, HF.out]; rfl, HB'.out⟩
    · have hkk : k + 1 = l.length := by omega
      have HN : Hid (lastB h l = blockB h u) := Lib.hid (HAL.out.trans (last_end HU.out hkk))
      have hdd : decide ((k : Int) < (l.length : Int) - 1) = false := by simp; omega
      have hkq : (l.length : Int) - 1 = (k : Int) := by omega
      go_wp2_with fail
      refine (IB.out d1 wr u _ HKU.out HOU.out HCU.out).mono ?_
      rintro e w' ⟨rfl, hb'⟩
      have HB' := Lib.hid (HB.out.trans (hb'.mono HB.out.size))
      clear hb' a0 a1 a2 a3 a4
      go_wp2
      go_ret
      exact ⟨by rw [HE.out, HN.out]; rfl, HB'.out⟩

end Go.Proofs.YtcidccifnaecaaaDoor

