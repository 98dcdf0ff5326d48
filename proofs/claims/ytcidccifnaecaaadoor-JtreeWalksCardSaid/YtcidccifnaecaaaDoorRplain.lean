/- What the document asks of a tree, kind by kind: plain words. -/
import Derived.Test.YtcidccifnaecaaaDoorRight
namespace Go.Proofs.YtcidccifnaecaaaDoor
open Go.RowKit

def exprB (h : Nat) (t : Tree) : Bool := exprK t.op && fitsB h t
def stmtB (h : Nat) (t : Tree) : Bool := stmtK t.op && fitsB h t
def blockB (h : Nat) (t : Tree) : Bool := t.op == 32 && fitsB h t
def allB (h : Nat) (l : List Tree) : Bool := l.all (exprB h)
def lastB (h : Nat) : List Tree → Bool
  | [] => false
  | [u] => blockB h u
  | u :: us => (u.op == 1 && exprB h u) && lastB h us
def funB (h : Nat) (l : List Tree) : Bool := decide (1 ≤ l.length) && decide (l.length ≤ 201) && lastB h l

theorem kids_all {R : Tree → Bool} {k : Int} {len : Nat} {q : Int → Bool} : ∀ {l : List Tree} {i : Nat}, (∀ j op, i ≤ j → j < i + l.length → partB k len j op = q op) → kidsB R k len i l = l.all fun u => q u.op && R u
  | [], _, _ => rfl
  | u :: us, i, h => by
    rw [kidsB, h i u.op (Nat.le_refl _) (by simp), kids_all (l := us) (i := i + 1) (fun j op h1 h2 => h j op (by omega) (by simp at h2 ⊢; omega))]
    rfl
theorem kids_fun {h : Nat} {k : Int} (hk : k = 10 ∨ k = 41) {len : Nat} : ∀ {l : List Tree} {i : Nat}, i + l.length = len → 1 ≤ l.length → kidsB (fitsB h) k len i l = lastB h l
  | [], _, _, h1 => by simp at h1
  | [u], i, h0, _ => by
    have : i + 1 = len := by simpa using h0
    simp only [kidsB, lastB, blockB, partB, if_pos hk, if_pos this]
    simp
  | u :: v :: us, i, h0, _ => by
    have h1 : ¬ i + 1 = len := by simp at h0; omega
    rw [kidsB, kids_fun hk (l := v :: us) (i := i + 1) (by simp at h0 ⊢; omega) (by simp)]
    simp only [lastB, partB, if_pos hk, if_neg h1, exprB]
    cases h2 : (u.op == 1)
    · rfl
    · have : u.op = 1 := by simpa using h2
      rw [this]
      rfl
theorem bool_len (n c : Nat) : (decide ((c : Int) ≤ (n : Int)) && decide ((n : Int) ≤ (c : Int))) = ((n : Int) == (c : Int)) := by
  rw [Bool.eq_iff_iff]
  simp
  omega
theorem fits_1 (h : Nat) (t : Tree) (hk : t.op = 1) : fitsB (h + 1) t = (nameB t.s.data.toList && decide ((0 : Int) ≤ t.l.length) && decide ((t.l.length : Int) ≤ 0) && (t.n == 0) && kidsB (fitsB h) 1 t.l.length 0 t.l) := by
  have e : fitsB (h + 1) t = fitStep (fitsB h) t := rfl
  rw [e]
  unfold fitStep
  rw [hk]
  show (testB 1 t.s.data.toList && decide ((0 : Int) ≤ t.l.length) && decide ((t.l.length : Int) ≤ 0) && numB 1 t.n && kidsB (fitsB h) 1 t.l.length 0 t.l) = _
  rw [show testB 1 t.s.data.toList = (nameB t.s.data.toList) from rfl]
  rw [show numB 1 t.n = (t.n == 0) by simp [numB]]
theorem fits_2 (h : Nat) (t : Tree) (hk : t.op = 2) : fitsB (h + 1) t = (t.s.data.toList.isEmpty && decide ((0 : Int) ≤ t.l.length) && decide ((t.l.length : Int) ≤ 0) && numB 2 t.n && kidsB (fitsB h) 2 t.l.length 0 t.l) := by
  have e : fitsB (h + 1) t = fitStep (fitsB h) t := rfl
  rw [e]
  unfold fitStep
  rw [hk]
  show (testB 2 t.s.data.toList && decide ((0 : Int) ≤ t.l.length) && decide ((t.l.length : Int) ≤ 0) && numB 2 t.n && kidsB (fitsB h) 2 t.l.length 0 t.l) = _
  rw [show testB 2 t.s.data.toList = (t.s.data.toList.isEmpty) from rfl]
theorem fits_3 (h : Nat) (t : Tree) (hk : t.op = 3) : fitsB (h + 1) t = (true && decide ((0 : Int) ≤ t.l.length) && decide ((t.l.length : Int) ≤ 0) && (t.n == 0) && kidsB (fitsB h) 3 t.l.length 0 t.l) := by
  have e : fitsB (h + 1) t = fitStep (fitsB h) t := rfl
  rw [e]
  unfold fitStep
  rw [hk]
  show (testB 3 t.s.data.toList && decide ((0 : Int) ≤ t.l.length) && decide ((t.l.length : Int) ≤ 0) && numB 3 t.n && kidsB (fitsB h) 3 t.l.length 0 t.l) = _
  rw [show testB 3 t.s.data.toList = (true) from rfl]
  rw [show numB 3 t.n = (t.n == 0) by simp [numB]]
theorem fits_4 (h : Nat) (t : Tree) (hk : t.op = 4) : fitsB (h + 1) t = (t.s.data.toList.isEmpty && decide ((0 : Int) ≤ t.l.length) && decide ((t.l.length : Int) ≤ 0) && (t.n == 0) && kidsB (fitsB h) 4 t.l.length 0 t.l) := by
  have e : fitsB (h + 1) t = fitStep (fitsB h) t := rfl
  rw [e]
  unfold fitStep
  rw [hk]
  show (testB 4 t.s.data.toList && decide ((0 : Int) ≤ t.l.length) && decide ((t.l.length : Int) ≤ 0) && numB 4 t.n && kidsB (fitsB h) 4 t.l.length 0 t.l) = _
  rw [show testB 4 t.s.data.toList = (t.s.data.toList.isEmpty) from rfl]
  rw [show numB 4 t.n = (t.n == 0) by simp [numB]]
theorem fits_5 (h : Nat) (t : Tree) (hk : t.op = 5) : fitsB (h + 1) t = (t.s.data.toList.isEmpty && decide ((0 : Int) ≤ t.l.length) && decide ((t.l.length : Int) ≤ 0) && (t.n == 0) && kidsB (fitsB h) 5 t.l.length 0 t.l) := by
  have e : fitsB (h + 1) t = fitStep (fitsB h) t := rfl
  rw [e]
  unfold fitStep
  rw [hk]
  show (testB 5 t.s.data.toList && decide ((0 : Int) ≤ t.l.length) && decide ((t.l.length : Int) ≤ 0) && numB 5 t.n && kidsB (fitsB h) 5 t.l.length 0 t.l) = _
  rw [show testB 5 t.s.data.toList = (t.s.data.toList.isEmpty) from rfl]
  rw [show numB 5 t.n = (t.n == 0) by simp [numB]]
theorem fits_6 (h : Nat) (t : Tree) (hk : t.op = 6) : fitsB (h + 1) t = (t.s.data.toList.isEmpty && decide ((0 : Int) ≤ t.l.length) && decide ((t.l.length : Int) ≤ 0) && (t.n == 0) && kidsB (fitsB h) 6 t.l.length 0 t.l) := by
  have e : fitsB (h + 1) t = fitStep (fitsB h) t := rfl
  rw [e]
  unfold fitStep
  rw [hk]
  show (testB 6 t.s.data.toList && decide ((0 : Int) ≤ t.l.length) && decide ((t.l.length : Int) ≤ 0) && numB 6 t.n && kidsB (fitsB h) 6 t.l.length 0 t.l) = _
  rw [show testB 6 t.s.data.toList = (t.s.data.toList.isEmpty) from rfl]
  rw [show numB 6 t.n = (t.n == 0) by simp [numB]]
theorem fits_7 (h : Nat) (t : Tree) (hk : t.op = 7) : fitsB (h + 1) t = (t.s.data.toList.isEmpty && decide ((0 : Int) ≤ t.l.length) && decide ((t.l.length : Int) ≤ 0) && (t.n == 0) && kidsB (fitsB h) 7 t.l.length 0 t.l) := by
  have e : fitsB (h + 1) t = fitStep (fitsB h) t := rfl
  rw [e]
  unfold fitStep
  rw [hk]
  show (testB 7 t.s.data.toList && decide ((0 : Int) ≤ t.l.length) && decide ((t.l.length : Int) ≤ 0) && numB 7 t.n && kidsB (fitsB h) 7 t.l.length 0 t.l) = _
  rw [show testB 7 t.s.data.toList = (t.s.data.toList.isEmpty) from rfl]
  rw [show numB 7 t.n = (t.n == 0) by simp [numB]]
theorem fits_8 (h : Nat) (t : Tree) (hk : t.op = 8) : fitsB (h + 1) t = (t.s.data.toList.isEmpty && decide ((0 : Int) ≤ t.l.length) && decide ((t.l.length : Int) ≤ 0) && (t.n == 0) && kidsB (fitsB h) 8 t.l.length 0 t.l) := by
  have e : fitsB (h + 1) t = fitStep (fitsB h) t := rfl
  rw [e]
  unfold fitStep
  rw [hk]
  show (testB 8 t.s.data.toList && decide ((0 : Int) ≤ t.l.length) && decide ((t.l.length : Int) ≤ 0) && numB 8 t.n && kidsB (fitsB h) 8 t.l.length 0 t.l) = _
  rw [show testB 8 t.s.data.toList = (t.s.data.toList.isEmpty) from rfl]
  rw [show numB 8 t.n = (t.n == 0) by simp [numB]]
theorem fits_9 (h : Nat) (t : Tree) (hk : t.op = 9) : fitsB (h + 1) t = (t.s.data.toList.isEmpty && decide ((0 : Int) ≤ t.l.length) && decide ((t.l.length : Int) ≤ 0) && (t.n == 0) && kidsB (fitsB h) 9 t.l.length 0 t.l) := by
  have e : fitsB (h + 1) t = fitStep (fitsB h) t := rfl
  rw [e]
  unfold fitStep
  rw [hk]
  show (testB 9 t.s.data.toList && decide ((0 : Int) ≤ t.l.length) && decide ((t.l.length : Int) ≤ 0) && numB 9 t.n && kidsB (fitsB h) 9 t.l.length 0 t.l) = _
  rw [show testB 9 t.s.data.toList = (t.s.data.toList.isEmpty) from rfl]
  rw [show numB 9 t.n = (t.n == 0) by simp [numB]]
theorem fits_10 (h : Nat) (t : Tree) (hk : t.op = 10) : fitsB (h + 1) t = ((t.s.data.toList.isEmpty || nameB t.s.data.toList) && decide ((1 : Int) ≤ t.l.length) && decide ((t.l.length : Int) ≤ 201) && (t.n == 0) && kidsB (fitsB h) 10 t.l.length 0 t.l) := by
  have e : fitsB (h + 1) t = fitStep (fitsB h) t := rfl
  rw [e]
  unfold fitStep
  rw [hk]
  show (testB 10 t.s.data.toList && decide ((1 : Int) ≤ t.l.length) && decide ((t.l.length : Int) ≤ 201) && numB 10 t.n && kidsB (fitsB h) 10 t.l.length 0 t.l) = _
  rw [show testB 10 t.s.data.toList = ((t.s.data.toList.isEmpty || nameB t.s.data.toList)) from rfl]
  rw [show numB 10 t.n = (t.n == 0) by simp [numB]]
theorem fits_11 (h : Nat) (t : Tree) (hk : t.op = 11) : fitsB (h + 1) t = (t.s.data.toList.isEmpty && decide ((0 : Int) ≤ t.l.length) && decide ((t.l.length : Int) ≤ 200) && (t.n == 0) && kidsB (fitsB h) 11 t.l.length 0 t.l) := by
  have e : fitsB (h + 1) t = fitStep (fitsB h) t := rfl
  rw [e]
  unfold fitStep
  rw [hk]
  show (testB 11 t.s.data.toList && decide ((0 : Int) ≤ t.l.length) && decide ((t.l.length : Int) ≤ 200) && numB 11 t.n && kidsB (fitsB h) 11 t.l.length 0 t.l) = _
  rw [show testB 11 t.s.data.toList = (t.s.data.toList.isEmpty) from rfl]
  rw [show numB 11 t.n = (t.n == 0) by simp [numB]]
theorem fits_12 (h : Nat) (t : Tree) (hk : t.op = 12) : fitsB (h + 1) t = (true && decide ((1 : Int) ≤ t.l.length) && decide ((t.l.length : Int) ≤ 1) && (t.n == 0) && kidsB (fitsB h) 12 t.l.length 0 t.l) := by
  have e : fitsB (h + 1) t = fitStep (fitsB h) t := rfl
  rw [e]
  unfold fitStep
  rw [hk]
  show (testB 12 t.s.data.toList && decide ((1 : Int) ≤ t.l.length) && decide ((t.l.length : Int) ≤ 1) && numB 12 t.n && kidsB (fitsB h) 12 t.l.length 0 t.l) = _
  rw [show testB 12 t.s.data.toList = (true) from rfl]
  rw [show numB 12 t.n = (t.n == 0) by simp [numB]]
theorem fits_13 (h : Nat) (t : Tree) (hk : t.op = 13) : fitsB (h + 1) t = ((nameB t.s.data.toList || wordB t.s.data.toList) && decide ((1 : Int) ≤ t.l.length) && decide ((t.l.length : Int) ≤ 1) && (t.n == 0) && kidsB (fitsB h) 13 t.l.length 0 t.l) := by
  have e : fitsB (h + 1) t = fitStep (fitsB h) t := rfl
  rw [e]
  unfold fitStep
  rw [hk]
  show (testB 13 t.s.data.toList && decide ((1 : Int) ≤ t.l.length) && decide ((t.l.length : Int) ≤ 1) && numB 13 t.n && kidsB (fitsB h) 13 t.l.length 0 t.l) = _
  rw [show testB 13 t.s.data.toList = ((nameB t.s.data.toList || wordB t.s.data.toList)) from rfl]
  rw [show numB 13 t.n = (t.n == 0) by simp [numB]]
theorem fits_14 (h : Nat) (t : Tree) (hk : t.op = 14) : fitsB (h + 1) t = (t.s.data.toList.isEmpty && decide ((2 : Int) ≤ t.l.length) && decide ((t.l.length : Int) ≤ 2) && (t.n == 0) && kidsB (fitsB h) 14 t.l.length 0 t.l) := by
  have e : fitsB (h + 1) t = fitStep (fitsB h) t := rfl
  rw [e]
  unfold fitStep
  rw [hk]
  show (testB 14 t.s.data.toList && decide ((2 : Int) ≤ t.l.length) && decide ((t.l.length : Int) ≤ 2) && numB 14 t.n && kidsB (fitsB h) 14 t.l.length 0 t.l) = _
  rw [show testB 14 t.s.data.toList = (t.s.data.toList.isEmpty) from rfl]
  rw [show numB 14 t.n = (t.n == 0) by simp [numB]]
theorem fits_15 (h : Nat) (t : Tree) (hk : t.op = 15) : fitsB (h + 1) t = (t.s.data.toList.isEmpty && decide ((1 : Int) ≤ t.l.length) && decide ((t.l.length : Int) ≤ 200) && (t.n == 0) && kidsB (fitsB h) 15 t.l.length 0 t.l) := by
  have e : fitsB (h + 1) t = fitStep (fitsB h) t := rfl
  rw [e]
  unfold fitStep
  rw [hk]
  show (testB 15 t.s.data.toList && decide ((1 : Int) ≤ t.l.length) && decide ((t.l.length : Int) ≤ 200) && numB 15 t.n && kidsB (fitsB h) 15 t.l.length 0 t.l) = _
  rw [show testB 15 t.s.data.toList = (t.s.data.toList.isEmpty) from rfl]
  rw [show numB 15 t.n = (t.n == 0) by simp [numB]]
theorem fits_16 (h : Nat) (t : Tree) (hk : t.op = 16) : fitsB (h + 1) t = (t.s.data.toList.isEmpty && decide ((1 : Int) ≤ t.l.length) && decide ((t.l.length : Int) ≤ 200) && (t.n == 0) && kidsB (fitsB h) 16 t.l.length 0 t.l) := by
  have e : fitsB (h + 1) t = fitStep (fitsB h) t := rfl
  rw [e]
  unfold fitStep
  rw [hk]
  show (testB 16 t.s.data.toList && decide ((1 : Int) ≤ t.l.length) && decide ((t.l.length : Int) ≤ 200) && numB 16 t.n && kidsB (fitsB h) 16 t.l.length 0 t.l) = _
  rw [show testB 16 t.s.data.toList = (t.s.data.toList.isEmpty) from rfl]
  rw [show numB 16 t.n = (t.n == 0) by simp [numB]]
theorem fits_17 (h : Nat) (t : Tree) (hk : t.op = 17) : fitsB (h + 1) t = (t.s.data.toList.isEmpty && decide ((2 : Int) ≤ t.l.length) && decide ((t.l.length : Int) ≤ 2) && (t.n == 0) && kidsB (fitsB h) 17 t.l.length 0 t.l) := by
  have e : fitsB (h + 1) t = fitStep (fitsB h) t := rfl
  rw [e]
  unfold fitStep
  rw [hk]
  show (testB 17 t.s.data.toList && decide ((2 : Int) ≤ t.l.length) && decide ((t.l.length : Int) ≤ 2) && numB 17 t.n && kidsB (fitsB h) 17 t.l.length 0 t.l) = _
  rw [show testB 17 t.s.data.toList = (t.s.data.toList.isEmpty) from rfl]
  rw [show numB 17 t.n = (t.n == 0) by simp [numB]]
theorem fits_18 (h : Nat) (t : Tree) (hk : t.op = 18) : fitsB (h + 1) t = (signB t.s.data.toList && decide ((2 : Int) ≤ t.l.length) && decide ((t.l.length : Int) ≤ 2) && (t.n == 0) && kidsB (fitsB h) 18 t.l.length 0 t.l) := by
  have e : fitsB (h + 1) t = fitStep (fitsB h) t := rfl
  rw [e]
  unfold fitStep
  rw [hk]
  show (testB 18 t.s.data.toList && decide ((2 : Int) ≤ t.l.length) && decide ((t.l.length : Int) ≤ 2) && numB 18 t.n && kidsB (fitsB h) 18 t.l.length 0 t.l) = _
  rw [show testB 18 t.s.data.toList = (signB t.s.data.toList) from rfl]
  rw [show numB 18 t.n = (t.n == 0) by simp [numB]]
theorem fits_19 (h : Nat) (t : Tree) (hk : t.op = 19) : fitsB (h + 1) t = (t.s.data.toList.isEmpty && decide ((1 : Int) ≤ t.l.length) && decide ((t.l.length : Int) ≤ 1) && (t.n == 0) && kidsB (fitsB h) 19 t.l.length 0 t.l) := by
  have e : fitsB (h + 1) t = fitStep (fitsB h) t := rfl
  rw [e]
  unfold fitStep
  rw [hk]
  show (testB 19 t.s.data.toList && decide ((1 : Int) ≤ t.l.length) && decide ((t.l.length : Int) ≤ 1) && numB 19 t.n && kidsB (fitsB h) 19 t.l.length 0 t.l) = _
  rw [show testB 19 t.s.data.toList = (t.s.data.toList.isEmpty) from rfl]
  rw [show numB 19 t.n = (t.n == 0) by simp [numB]]
theorem fits_20 (h : Nat) (t : Tree) (hk : t.op = 20) : fitsB (h + 1) t = (t.s.data.toList.isEmpty && decide ((1 : Int) ≤ t.l.length) && decide ((t.l.length : Int) ≤ 1) && (t.n == 0) && kidsB (fitsB h) 20 t.l.length 0 t.l) := by
  have e : fitsB (h + 1) t = fitStep (fitsB h) t := rfl
  rw [e]
  unfold fitStep
  rw [hk]
  show (testB 20 t.s.data.toList && decide ((1 : Int) ≤ t.l.length) && decide ((t.l.length : Int) ≤ 1) && numB 20 t.n && kidsB (fitsB h) 20 t.l.length 0 t.l) = _
  rw [show testB 20 t.s.data.toList = (t.s.data.toList.isEmpty) from rfl]
  rw [show numB 20 t.n = (t.n == 0) by simp [numB]]
theorem fits_21 (h : Nat) (t : Tree) (hk : t.op = 21) : fitsB (h + 1) t = (t.s.data.toList.isEmpty && decide ((2 : Int) ≤ t.l.length) && decide ((t.l.length : Int) ≤ 2) && (t.n == 0) && kidsB (fitsB h) 21 t.l.length 0 t.l) := by
  have e : fitsB (h + 1) t = fitStep (fitsB h) t := rfl
  rw [e]
  unfold fitStep
  rw [hk]
  show (testB 21 t.s.data.toList && decide ((2 : Int) ≤ t.l.length) && decide ((t.l.length : Int) ≤ 2) && numB 21 t.n && kidsB (fitsB h) 21 t.l.length 0 t.l) = _
  rw [show testB 21 t.s.data.toList = (t.s.data.toList.isEmpty) from rfl]
  rw [show numB 21 t.n = (t.n == 0) by simp [numB]]
theorem fits_22 (h : Nat) (t : Tree) (hk : t.op = 22) : fitsB (h + 1) t = (t.s.data.toList.isEmpty && decide ((2 : Int) ≤ t.l.length) && decide ((t.l.length : Int) ≤ 2) && (t.n == 0) && kidsB (fitsB h) 22 t.l.length 0 t.l) := by
  have e : fitsB (h + 1) t = fitStep (fitsB h) t := rfl
  rw [e]
  unfold fitStep
  rw [hk]
  show (testB 22 t.s.data.toList && decide ((2 : Int) ≤ t.l.length) && decide ((t.l.length : Int) ≤ 2) && numB 22 t.n && kidsB (fitsB h) 22 t.l.length 0 t.l) = _
  rw [show testB 22 t.s.data.toList = (t.s.data.toList.isEmpty) from rfl]
  rw [show numB 22 t.n = (t.n == 0) by simp [numB]]
theorem fits_23 (h : Nat) (t : Tree) (hk : t.op = 23) : fitsB (h + 1) t = (t.s.data.toList.isEmpty && decide ((3 : Int) ≤ t.l.length) && decide ((t.l.length : Int) ≤ 3) && (t.n == 0) && kidsB (fitsB h) 23 t.l.length 0 t.l) := by
  have e : fitsB (h + 1) t = fitStep (fitsB h) t := rfl
  rw [e]
  unfold fitStep
  rw [hk]
  show (testB 23 t.s.data.toList && decide ((3 : Int) ≤ t.l.length) && decide ((t.l.length : Int) ≤ 3) && numB 23 t.n && kidsB (fitsB h) 23 t.l.length 0 t.l) = _
  rw [show testB 23 t.s.data.toList = (t.s.data.toList.isEmpty) from rfl]
  rw [show numB 23 t.n = (t.n == 0) by simp [numB]]
theorem fits_30 (h : Nat) (t : Tree) (hk : t.op = 30) : fitsB (h + 1) t = (nameB t.s.data.toList && decide ((0 : Int) ≤ t.l.length) && decide ((t.l.length : Int) ≤ 1) && (t.n == 0) && kidsB (fitsB h) 30 t.l.length 0 t.l) := by
  have e : fitsB (h + 1) t = fitStep (fitsB h) t := rfl
  rw [e]
  unfold fitStep
  rw [hk]
  show (testB 30 t.s.data.toList && decide ((0 : Int) ≤ t.l.length) && decide ((t.l.length : Int) ≤ 1) && numB 30 t.n && kidsB (fitsB h) 30 t.l.length 0 t.l) = _
  rw [show testB 30 t.s.data.toList = (nameB t.s.data.toList) from rfl]
  rw [show numB 30 t.n = (t.n == 0) by simp [numB]]
theorem fits_31 (h : Nat) (t : Tree) (hk : t.op = 31) : fitsB (h + 1) t = (t.s.data.toList.isEmpty && decide ((1 : Int) ≤ t.l.length) && decide ((t.l.length : Int) ≤ 1) && (t.n == 0) && kidsB (fitsB h) 31 t.l.length 0 t.l) := by
  have e : fitsB (h + 1) t = fitStep (fitsB h) t := rfl
  rw [e]
  unfold fitStep
  rw [hk]
  show (testB 31 t.s.data.toList && decide ((1 : Int) ≤ t.l.length) && decide ((t.l.length : Int) ≤ 1) && numB 31 t.n && kidsB (fitsB h) 31 t.l.length 0 t.l) = _
  rw [show testB 31 t.s.data.toList = (t.s.data.toList.isEmpty) from rfl]
  rw [show numB 31 t.n = (t.n == 0) by simp [numB]]
theorem fits_32 (h : Nat) (t : Tree) (hk : t.op = 32) : fitsB (h + 1) t = (t.s.data.toList.isEmpty && decide ((0 : Int) ≤ t.l.length) && decide ((t.l.length : Int) ≤ 1073741824) && (t.n == 0) && kidsB (fitsB h) 32 t.l.length 0 t.l) := by
  have e : fitsB (h + 1) t = fitStep (fitsB h) t := rfl
  rw [e]
  unfold fitStep
  rw [hk]
  show (testB 32 t.s.data.toList && decide ((0 : Int) ≤ t.l.length) && decide ((t.l.length : Int) ≤ 1073741824) && numB 32 t.n && kidsB (fitsB h) 32 t.l.length 0 t.l) = _
  rw [show testB 32 t.s.data.toList = (t.s.data.toList.isEmpty) from rfl]
  rw [show numB 32 t.n = (t.n == 0) by simp [numB]]
theorem fits_33 (h : Nat) (t : Tree) (hk : t.op = 33) : fitsB (h + 1) t = (t.s.data.toList.isEmpty && decide ((2 : Int) ≤ t.l.length) && decide ((t.l.length : Int) ≤ 3) && (t.n == 0) && kidsB (fitsB h) 33 t.l.length 0 t.l) := by
  have e : fitsB (h + 1) t = fitStep (fitsB h) t := rfl
  rw [e]
  unfold fitStep
  rw [hk]
  show (testB 33 t.s.data.toList && decide ((2 : Int) ≤ t.l.length) && decide ((t.l.length : Int) ≤ 3) && numB 33 t.n && kidsB (fitsB h) 33 t.l.length 0 t.l) = _
  rw [show testB 33 t.s.data.toList = (t.s.data.toList.isEmpty) from rfl]
  rw [show numB 33 t.n = (t.n == 0) by simp [numB]]
theorem fits_34 (h : Nat) (t : Tree) (hk : t.op = 34) : fitsB (h + 1) t = (t.s.data.toList.isEmpty && decide ((2 : Int) ≤ t.l.length) && decide ((t.l.length : Int) ≤ 2) && (t.n == 0) && kidsB (fitsB h) 34 t.l.length 0 t.l) := by
  have e : fitsB (h + 1) t = fitStep (fitsB h) t := rfl
  rw [e]
  unfold fitStep
  rw [hk]
  show (testB 34 t.s.data.toList && decide ((2 : Int) ≤ t.l.length) && decide ((t.l.length : Int) ≤ 2) && numB 34 t.n && kidsB (fitsB h) 34 t.l.length 0 t.l) = _
  rw [show testB 34 t.s.data.toList = (t.s.data.toList.isEmpty) from rfl]
  rw [show numB 34 t.n = (t.n == 0) by simp [numB]]
theorem fits_35 (h : Nat) (t : Tree) (hk : t.op = 35) : fitsB (h + 1) t = (nameB t.s.data.toList && decide ((2 : Int) ≤ t.l.length) && decide ((t.l.length : Int) ≤ 2) && (t.n == 0) && kidsB (fitsB h) 35 t.l.length 0 t.l) := by
  have e : fitsB (h + 1) t = fitStep (fitsB h) t := rfl
  rw [e]
  unfold fitStep
  rw [hk]
  show (testB 35 t.s.data.toList && decide ((2 : Int) ≤ t.l.length) && decide ((t.l.length : Int) ≤ 2) && numB 35 t.n && kidsB (fitsB h) 35 t.l.length 0 t.l) = _
  rw [show testB 35 t.s.data.toList = (nameB t.s.data.toList) from rfl]
  rw [show numB 35 t.n = (t.n == 0) by simp [numB]]
theorem fits_36 (h : Nat) (t : Tree) (hk : t.op = 36) : fitsB (h + 1) t = (t.s.data.toList.isEmpty && decide ((0 : Int) ≤ t.l.length) && decide ((t.l.length : Int) ≤ 1) && (t.n == 0) && kidsB (fitsB h) 36 t.l.length 0 t.l) := by
  have e : fitsB (h + 1) t = fitStep (fitsB h) t := rfl
  rw [e]
  unfold fitStep
  rw [hk]
  show (testB 36 t.s.data.toList && decide ((0 : Int) ≤ t.l.length) && decide ((t.l.length : Int) ≤ 1) && numB 36 t.n && kidsB (fitsB h) 36 t.l.length 0 t.l) = _
  rw [show testB 36 t.s.data.toList = (t.s.data.toList.isEmpty) from rfl]
  rw [show numB 36 t.n = (t.n == 0) by simp [numB]]
theorem fits_37 (h : Nat) (t : Tree) (hk : t.op = 37) : fitsB (h + 1) t = (t.s.data.toList.isEmpty && decide ((1 : Int) ≤ t.l.length) && decide ((t.l.length : Int) ≤ 1) && (t.n == 0) && kidsB (fitsB h) 37 t.l.length 0 t.l) := by
  have e : fitsB (h + 1) t = fitStep (fitsB h) t := rfl
  rw [e]
  unfold fitStep
  rw [hk]
  show (testB 37 t.s.data.toList && decide ((1 : Int) ≤ t.l.length) && decide ((t.l.length : Int) ≤ 1) && numB 37 t.n && kidsB (fitsB h) 37 t.l.length 0 t.l) = _
  rw [show testB 37 t.s.data.toList = (t.s.data.toList.isEmpty) from rfl]
  rw [show numB 37 t.n = (t.n == 0) by simp [numB]]
theorem fits_38 (h : Nat) (t : Tree) (hk : t.op = 38) : fitsB (h + 1) t = (nameB t.s.data.toList && decide ((2 : Int) ≤ t.l.length) && decide ((t.l.length : Int) ≤ 2) && (t.n == 0) && kidsB (fitsB h) 38 t.l.length 0 t.l) := by
  have e : fitsB (h + 1) t = fitStep (fitsB h) t := rfl
  rw [e]
  unfold fitStep
  rw [hk]
  show (testB 38 t.s.data.toList && decide ((2 : Int) ≤ t.l.length) && decide ((t.l.length : Int) ≤ 2) && numB 38 t.n && kidsB (fitsB h) 38 t.l.length 0 t.l) = _
  rw [show testB 38 t.s.data.toList = (nameB t.s.data.toList) from rfl]
  rw [show numB 38 t.n = (t.n == 0) by simp [numB]]
theorem fits_39 (h : Nat) (t : Tree) (hk : t.op = 39) : fitsB (h + 1) t = (t.s.data.toList.isEmpty && decide ((0 : Int) ≤ t.l.length) && decide ((t.l.length : Int) ≤ 0) && (t.n == 0) && kidsB (fitsB h) 39 t.l.length 0 t.l) := by
  have e : fitsB (h + 1) t = fitStep (fitsB h) t := rfl
  rw [e]
  unfold fitStep
  rw [hk]
  show (testB 39 t.s.data.toList && decide ((0 : Int) ≤ t.l.length) && decide ((t.l.length : Int) ≤ 0) && numB 39 t.n && kidsB (fitsB h) 39 t.l.length 0 t.l) = _
  rw [show testB 39 t.s.data.toList = (t.s.data.toList.isEmpty) from rfl]
  rw [show numB 39 t.n = (t.n == 0) by simp [numB]]
theorem fits_40 (h : Nat) (t : Tree) (hk : t.op = 40) : fitsB (h + 1) t = (t.s.data.toList.isEmpty && decide ((0 : Int) ≤ t.l.length) && decide ((t.l.length : Int) ≤ 0) && (t.n == 0) && kidsB (fitsB h) 40 t.l.length 0 t.l) := by
  have e : fitsB (h + 1) t = fitStep (fitsB h) t := rfl
  rw [e]
  unfold fitStep
  rw [hk]
  show (testB 40 t.s.data.toList && decide ((0 : Int) ≤ t.l.length) && decide ((t.l.length : Int) ≤ 0) && numB 40 t.n && kidsB (fitsB h) 40 t.l.length 0 t.l) = _
  rw [show testB 40 t.s.data.toList = (t.s.data.toList.isEmpty) from rfl]
  rw [show numB 40 t.n = (t.n == 0) by simp [numB]]
theorem fits_41 (h : Nat) (t : Tree) (hk : t.op = 41) : fitsB (h + 1) t = (nameB t.s.data.toList && decide ((1 : Int) ≤ t.l.length) && decide ((t.l.length : Int) ≤ 201) && (t.n == 0) && kidsB (fitsB h) 41 t.l.length 0 t.l) := by
  have e : fitsB (h + 1) t = fitStep (fitsB h) t := rfl
  rw [e]
  unfold fitStep
  rw [hk]
  show (testB 41 t.s.data.toList && decide ((1 : Int) ≤ t.l.length) && decide ((t.l.length : Int) ≤ 201) && numB 41 t.n && kidsB (fitsB h) 41 t.l.length 0 t.l) = _
  rw [show testB 41 t.s.data.toList = (nameB t.s.data.toList) from rfl]
  rw [show numB 41 t.n = (t.n == 0) by simp [numB]]

end Go.Proofs.YtcidccifnaecaaaDoor
