/- What the document asks of a tree, kind by kind, in its own order: plain words. -/
import Derived.Test.YtcidccifnaecaaaDoorRplain
namespace Go.Proofs.YtcidccifnaecaaaDoor
open Go.RowKit

theorem and_len (T N K : Bool) (n c : Int) : (T && decide (c ≤ n) && decide (n ≤ c) && N && K) = (T && N && (n == c) && K) := by
  by_cases h : n = c
  · subst h
    cases T <;> cases N <;> simp
  · have h1 : (n == c) = false := by simpa using h
    have h2 : (decide (c ≤ n) && decide (n ≤ c)) = false := by
      rw [Bool.and_eq_false_iff]
      simp
      omega
    rw [h1, Bool.and_assoc T, h2]
    cases T <;> cases N <;> simp
theorem dec1 (n : Nat) : decide ((1 : Int) ≤ (n : Int)) = decide (1 ≤ n) := by
  rw [Bool.eq_iff_iff]
  simp only [decide_eq_true_eq]
  omega
theorem len_two {l : List Tree} (h : ((l.length : Int) == 2) = true) : ∃ a b, l = [a, b] := by
  match l, h with
  | [a, b], _ => exact ⟨a, b, rfl⟩
  | [], h => simp at h
  | [_], h => simp at h
  | _ :: _ :: _ :: _, h => simp at h; omega
theorem kids_none {R : Tree → Bool} {k : Int} {n : Nat} {l : List Tree} (h : ((l.length : Int) == 0) = true) : kidsB R k n 0 l = true := by
  have : l = [] := List.length_eq_zero_iff.1 (by simpa using h)
  rw [this]
  rfl
theorem and_none (T N : Bool) {R : Tree → Bool} {k : Int} {n : Nat} {l : List Tree} : (T && N && ((l.length : Int) == 0) && kidsB R k n 0 l) = (T && N && ((l.length : Int) == 0)) := by
  cases h : ((l.length : Int) == 0)
  · cases T <;> cases N <;> simp
  · rw [kids_none h]
    cases T <;> cases N <;> rfl
theorem kids_exprs {h : Nat} {k : Int} {n : Nat} {l : List Tree} (hk : ∀ j op, partB k n j op = exprK op) : kidsB (fitsB h) k n 0 l = allB h l :=
  kids_all (fun j op _ _ => hk j op)
def pairB (h : Nat) (p : Tree) : Bool := p.op == 12 && (p.n == 0) && ((p.l.length : Int) == 1) && (match h with | 0 => false | h + 1 => p.l.all (exprB h))
theorem pair_eq (h : Nat) (p : Tree) : (p.op == 12 && fitsB h p) = pairB h p := by
  cases hp : (p.op == 12)
  · simp [pairB, hp]
  · have hk : p.op = 12 := by simpa using hp
    cases h with
    | zero => simp [pairB, fitsB]
    | succ h =>
      rw [fits_12 h p hk, and_len, kids_exprs (fun j op => by simp [partB])]
      simp [pairB, hp, allB]
def headB (l : List Tree) : Bool := match l with | [] => false | a :: _ => a.op == 1 || a.op == 13 || a.op == 14
def twoB (A B : Tree → Bool) (l : List Tree) : Bool := match l with | [a, b] => A a && B b | _ => false
def ifB (h : Nat) (l : List Tree) : Bool := match l with | [a, b] => exprB h a && blockB h b | [a, b, c] => exprB h a && blockB h b && blockB h c | _ => false
theorem two_len {A B : Tree → Bool} {l : List Tree} (h : ((l.length : Int) == 2) = false) : twoB A B l = false := by
  match l, h with
  | [], _ => rfl
  | [_], _ => rfl
  | [_, _], h => simp at h
  | _ :: _ :: _ :: _, _ => rfl
theorem head_expr {a : Tree} (h : (a.op == 1 || a.op == 13 || a.op == 14) = true) : exprK a.op = true := by
  simp at h
  rcases h with (h | h) | h <;> rw [h] <;> rfl
theorem form_1 (h : Nat) (t : Tree) (hk : t.op = 1) : exprB (h + 1) t = (nameB t.s.data.toList && (t.n == 0) && ((t.l.length : Int) == 0)) := by
  rw [exprB, hk, show exprK 1 = true from rfl, Bool.true_and, fits_1 h t hk]
  rw [and_len, and_none]
theorem form_2 (h : Nat) (t : Tree) (hk : t.op = 2) : exprB (h + 1) t = (t.s.data.toList.isEmpty && decide (0 ≤ t.n) && decide (t.n ≤ 999999999999999) && ((t.l.length : Int) == 0)) := by
  rw [exprB, hk, show exprK 2 = true from rfl, Bool.true_and, fits_2 h t hk]
  rw [and_len, and_none]
  have : numB 2 t.n = (decide (0 ≤ t.n) && decide (t.n ≤ 999999999999999)) := by
    rw [Bool.eq_iff_iff]
    simp [numB]
    omega
  rw [this]
  simp only [Bool.and_assoc]
theorem form_3 (h : Nat) (t : Tree) (hk : t.op = 3) : exprB (h + 1) t = ((t.n == 0) && ((t.l.length : Int) == 0)) := by
  rw [exprB, hk, show exprK 3 = true from rfl, Bool.true_and, fits_3 h t hk]
  rw [and_len, and_none]
  rfl
theorem form_4 (h : Nat) (t : Tree) (hk : t.op = 4) : exprB (h + 1) t = (t.s.data.toList.isEmpty && (t.n == 0) && ((t.l.length : Int) == 0)) := by
  rw [exprB, hk, show exprK 4 = true from rfl, Bool.true_and, fits_4 h t hk]
  rw [and_len, and_none]
theorem form_5 (h : Nat) (t : Tree) (hk : t.op = 5) : exprB (h + 1) t = (t.s.data.toList.isEmpty && (t.n == 0) && ((t.l.length : Int) == 0)) := by
  rw [exprB, hk, show exprK 5 = true from rfl, Bool.true_and, fits_5 h t hk]
  rw [and_len, and_none]
theorem form_6 (h : Nat) (t : Tree) (hk : t.op = 6) : exprB (h + 1) t = (t.s.data.toList.isEmpty && (t.n == 0) && ((t.l.length : Int) == 0)) := by
  rw [exprB, hk, show exprK 6 = true from rfl, Bool.true_and, fits_6 h t hk]
  rw [and_len, and_none]
theorem form_7 (h : Nat) (t : Tree) (hk : t.op = 7) : exprB (h + 1) t = (t.s.data.toList.isEmpty && (t.n == 0) && ((t.l.length : Int) == 0)) := by
  rw [exprB, hk, show exprK 7 = true from rfl, Bool.true_and, fits_7 h t hk]
  rw [and_len, and_none]
theorem form_8 (h : Nat) (t : Tree) (hk : t.op = 8) : exprB (h + 1) t = (t.s.data.toList.isEmpty && (t.n == 0) && ((t.l.length : Int) == 0)) := by
  rw [exprB, hk, show exprK 8 = true from rfl, Bool.true_and, fits_8 h t hk]
  rw [and_len, and_none]
theorem form_9 (h : Nat) (t : Tree) (hk : t.op = 9) : exprB (h + 1) t = (t.s.data.toList.isEmpty && (t.n == 0) && ((t.l.length : Int) == 0)) := by
  rw [exprB, hk, show exprK 9 = true from rfl, Bool.true_and, fits_9 h t hk]
  rw [and_len, and_none]
theorem form_10 (h : Nat) (t : Tree) (hk : t.op = 10) : exprB (h + 1) t = ((t.s.data.toList.isEmpty || nameB t.s.data.toList) && (t.n == 0) && funB h t.l) := by
  rw [exprB, hk, show exprK 10 = true from rfl, Bool.true_and, fits_10 h t hk]
  unfold funB
  cases h1 : decide ((1 : Int) ≤ t.l.length)
  · have h2 : decide (1 ≤ t.l.length) = false := (dec1 _).symm.trans h1
    rw [h2]
    simp
  · have h2 : decide (1 ≤ t.l.length) = true := (dec1 _).symm.trans h1
    have h3 : decide ((t.l.length : Int) ≤ 201) = decide (t.l.length ≤ 201) := by rw [Bool.eq_iff_iff]; simp; omega
    rw [h2, h3, kids_fun (.inl rfl) (by omega) (by simpa using h2)]
    cases (t.s.data.toList.isEmpty || nameB t.s.data.toList) <;> cases decide (t.l.length ≤ 201) <;> cases (t.n == 0) <;> cases lastB h t.l <;> rfl
theorem form_11 (h : Nat) (t : Tree) (hk : t.op = 11) : exprB (h + 1) t = (t.s.data.toList.isEmpty && (t.n == 0) && !decide (200 < (t.l.length : Int)) && t.l.all (pairB h)) := by
  rw [exprB, hk, show exprK 11 = true from rfl, Bool.true_and, fits_11 h t hk]
  rw [kids_all (q := fun op => op == 12) (fun j op _ _ => by simp [partB])]
  rw [show (fun u : Tree => u.op == 12 && fitsB h u) = pairB h from funext (pair_eq h)]
  have h1 : decide ((0 : Int) ≤ t.l.length) = true := by simp
  have h2 : decide ((t.l.length : Int) ≤ 200) = !decide (200 < (t.l.length : Int)) := by rw [Bool.eq_iff_iff]; simp
  rw [h1, h2]
  cases t.s.data.toList.isEmpty <;> cases decide (200 < (t.l.length : Int)) <;> cases (t.n == 0) <;> rfl
theorem form_13 (h : Nat) (t : Tree) (hk : t.op = 13) : exprB (h + 1) t = ((nameB t.s.data.toList || wordB t.s.data.toList) && (t.n == 0) && ((t.l.length : Int) == 1) && allB h t.l) := by
  rw [exprB, hk, show exprK 13 = true from rfl, Bool.true_and, fits_13 h t hk]
  rw [and_len, kids_exprs (fun j op => by simp [partB])]
theorem form_14 (h : Nat) (t : Tree) (hk : t.op = 14) : exprB (h + 1) t = (t.s.data.toList.isEmpty && (t.n == 0) && ((t.l.length : Int) == 2) && allB h t.l) := by
  rw [exprB, hk, show exprK 14 = true from rfl, Bool.true_and, fits_14 h t hk]
  rw [and_len, kids_exprs (fun j op => by simp [partB])]
theorem form_21 (h : Nat) (t : Tree) (hk : t.op = 21) : exprB (h + 1) t = (t.s.data.toList.isEmpty && (t.n == 0) && ((t.l.length : Int) == 2) && allB h t.l) := by
  rw [exprB, hk, show exprK 21 = true from rfl, Bool.true_and, fits_21 h t hk]
  rw [and_len, kids_exprs (fun j op => by simp [partB])]
theorem form_22 (h : Nat) (t : Tree) (hk : t.op = 22) : exprB (h + 1) t = (t.s.data.toList.isEmpty && (t.n == 0) && ((t.l.length : Int) == 2) && allB h t.l) := by
  rw [exprB, hk, show exprK 22 = true from rfl, Bool.true_and, fits_22 h t hk]
  rw [and_len, kids_exprs (fun j op => by simp [partB])]
theorem form_19 (h : Nat) (t : Tree) (hk : t.op = 19) : exprB (h + 1) t = (t.s.data.toList.isEmpty && (t.n == 0) && ((t.l.length : Int) == 1) && allB h t.l) := by
  rw [exprB, hk, show exprK 19 = true from rfl, Bool.true_and, fits_19 h t hk]
  rw [and_len, kids_exprs (fun j op => by simp [partB])]
theorem form_20 (h : Nat) (t : Tree) (hk : t.op = 20) : exprB (h + 1) t = (t.s.data.toList.isEmpty && (t.n == 0) && ((t.l.length : Int) == 1) && allB h t.l) := by
  rw [exprB, hk, show exprK 20 = true from rfl, Bool.true_and, fits_20 h t hk]
  rw [and_len, kids_exprs (fun j op => by simp [partB])]
theorem form_23 (h : Nat) (t : Tree) (hk : t.op = 23) : exprB (h + 1) t = (t.s.data.toList.isEmpty && (t.n == 0) && ((t.l.length : Int) == 3) && allB h t.l) := by
  rw [exprB, hk, show exprK 23 = true from rfl, Bool.true_and, fits_23 h t hk]
  rw [and_len, kids_exprs (fun j op => by simp [partB])]
theorem form_15 (h : Nat) (t : Tree) (hk : t.op = 15) : exprB (h + 1) t = (t.s.data.toList.isEmpty && (t.n == 0) && decide ((1 : Int) ≤ t.l.length) && decide ((t.l.length : Int) ≤ 200) && allB h t.l) := by
  rw [exprB, hk, show exprK 15 = true from rfl, Bool.true_and, fits_15 h t hk]
  rw [kids_exprs (fun j op => by simp [partB])]
  cases t.s.data.toList.isEmpty <;> cases (t.n == 0) <;> cases decide ((1 : Int) ≤ t.l.length) <;> cases decide ((t.l.length : Int) ≤ 200) <;> rfl
theorem form_16 (h : Nat) (t : Tree) (hk : t.op = 16) : exprB (h + 1) t = (t.s.data.toList.isEmpty && (t.n == 0) && decide ((1 : Int) ≤ t.l.length) && decide ((t.l.length : Int) ≤ 200) && allB h t.l) := by
  rw [exprB, hk, show exprK 16 = true from rfl, Bool.true_and, fits_16 h t hk]
  rw [kids_exprs (fun j op => by simp [partB])]
  cases t.s.data.toList.isEmpty <;> cases (t.n == 0) <;> cases decide ((1 : Int) ≤ t.l.length) <;> cases decide ((t.l.length : Int) ≤ 200) <;> rfl
theorem form_17 (h : Nat) (t : Tree) (hk : t.op = 17) : exprB (h + 1) t = (t.s.data.toList.isEmpty && (t.n == 0) && ((t.l.length : Int) == 2) && allB h t.l && headB t.l) := by
  rw [exprB, hk, show exprK 17 = true from rfl, Bool.true_and, fits_17 h t hk]
  rw [and_len]
  cases h2 : ((t.l.length : Int) == 2)
  · simp
  · obtain ⟨a, b, hl⟩ : ∃ a b, t.l = [a, b] := len_two h2
    rw [hl]
    simp only [kidsB, allB, headB, List.all_cons, List.all_nil, exprB, partB]
    cases h3 : (a.op == 1 || a.op == 13 || a.op == 14)
    · simp
    · rw [head_expr h3]
      simp
theorem form_18 (h : Nat) (t : Tree) (hk : t.op = 18) : exprB (h + 1) t = (signB t.s.data.toList && (t.n == 0) && ((t.l.length : Int) == 2) && allB h t.l) := by
  rw [exprB, hk, show exprK 18 = true from rfl, Bool.true_and, fits_18 h t hk]
  rw [and_len, kids_exprs (fun j op => by simp [partB])]
theorem form_30 (h : Nat) (t : Tree) (hk : t.op = 30) : stmtB (h + 1) t = ((t.n == 0) && (nameB t.s.data.toList && decide ((t.l.length : Int) ≤ 1) && allB h t.l)) := by
  rw [stmtB, hk, show stmtK 30 = true from rfl, Bool.true_and, fits_30 h t hk]
  rw [kids_exprs (fun j op => by simp [partB]), show decide ((0 : Int) ≤ t.l.length) = true by simp]
  cases nameB t.s.data.toList <;> cases (t.n == 0) <;> cases decide ((t.l.length : Int) ≤ 1) <;> rfl
theorem form_31 (h : Nat) (t : Tree) (hk : t.op = 31) : stmtB (h + 1) t = ((t.n == 0) && (t.s.data.toList.isEmpty && ((t.l.length : Int) == 1) && allB h t.l)) := by
  rw [stmtB, hk, show stmtK 31 = true from rfl, Bool.true_and, fits_31 h t hk]
  rw [and_len, kids_exprs (fun j op => by simp [partB])]
  cases t.s.data.toList.isEmpty <;> cases (t.n == 0) <;> rfl
theorem form_37 (h : Nat) (t : Tree) (hk : t.op = 37) : stmtB (h + 1) t = ((t.n == 0) && (t.s.data.toList.isEmpty && ((t.l.length : Int) == 1) && allB h t.l)) := by
  rw [stmtB, hk, show stmtK 37 = true from rfl, Bool.true_and, fits_37 h t hk]
  rw [and_len, kids_exprs (fun j op => by simp [partB])]
  cases t.s.data.toList.isEmpty <;> cases (t.n == 0) <;> rfl
theorem form_36 (h : Nat) (t : Tree) (hk : t.op = 36) : stmtB (h + 1) t = ((t.n == 0) && (t.s.data.toList.isEmpty && decide ((t.l.length : Int) ≤ 1) && allB h t.l)) := by
  rw [stmtB, hk, show stmtK 36 = true from rfl, Bool.true_and, fits_36 h t hk]
  rw [kids_exprs (fun j op => by simp [partB]), show decide ((0 : Int) ≤ t.l.length) = true by simp]
  cases t.s.data.toList.isEmpty <;> cases (t.n == 0) <;> cases decide ((t.l.length : Int) ≤ 1) <;> rfl
theorem form_39 (h : Nat) (t : Tree) (hk : t.op = 39) : stmtB (h + 1) t = ((t.n == 0) && (t.s.data.toList.isEmpty && ((t.l.length : Int) == 0))) := by
  rw [stmtB, hk, show stmtK 39 = true from rfl, Bool.true_and, fits_39 h t hk]
  rw [and_len, and_none]
  cases t.s.data.toList.isEmpty <;> cases (t.n == 0) <;> rfl
theorem form_40 (h : Nat) (t : Tree) (hk : t.op = 40) : stmtB (h + 1) t = ((t.n == 0) && (t.s.data.toList.isEmpty && ((t.l.length : Int) == 0))) := by
  rw [stmtB, hk, show stmtK 40 = true from rfl, Bool.true_and, fits_40 h t hk]
  rw [and_len, and_none]
  cases t.s.data.toList.isEmpty <;> cases (t.n == 0) <;> rfl
theorem form_32 (h : Nat) (t : Tree) (hk : t.op = 32) (hm : t.l.length ≤ 1073741824) : stmtB (h + 1) t = ((t.n == 0) && (t.l.all (stmtB h) && t.s.data.toList.isEmpty)) := by
  rw [stmtB, hk, show stmtK 32 = true from rfl, Bool.true_and, fits_32 h t hk]
  rw [kids_all (q := stmtK) (fun j op _ _ => by simp [partB])]
  have h2 : decide ((t.l.length : Int) ≤ 1073741824) = true := by simp; omega
  rw [show decide ((0 : Int) ≤ t.l.length) = true by simp, h2]
  show _ = ((t.n == 0) && ((t.l.all fun u => stmtK u.op && fitsB h u) && t.s.data.toList.isEmpty))
  cases t.s.data.toList.isEmpty <;> cases (t.n == 0) <;> simp
theorem form_33 (h : Nat) (t : Tree) (hk : t.op = 33) : stmtB (h + 1) t = ((t.n == 0) && (t.s.data.toList.isEmpty && ifB h t.l)) := by
  rw [stmtB, hk, show stmtK 33 = true from rfl, Bool.true_and, fits_33 h t hk]
  match hl : t.l with
  | [] => cases t.s.data.toList.isEmpty <;> cases (t.n == 0) <;> rfl
  | [_] => cases t.s.data.toList.isEmpty <;> cases (t.n == 0) <;> rfl
  | [a, b] =>
    simp [kidsB, partB, ifB, exprB, blockB]
    cases t.s.data.toList.isEmpty <;> cases (t.n == 0) <;> simp [Bool.and_assoc]
  | [a, b, c] =>
    simp [kidsB, partB, ifB, exprB, blockB]
    cases t.s.data.toList.isEmpty <;> cases (t.n == 0) <;> simp [Bool.and_assoc]
  | a :: b :: c :: d :: r =>
    have : decide (((a :: b :: c :: d :: r).length : Int) ≤ 3) = false := by simp; omega
    rw [this]
    cases t.s.data.toList.isEmpty <;> cases (t.n == 0) <;> simp [ifB]
theorem form_34 (h : Nat) (t : Tree) (hk : t.op = 34) : stmtB (h + 1) t = ((t.n == 0) && (t.s.data.toList.isEmpty && twoB (exprB h) (blockB h) t.l)) := by
  rw [stmtB, hk, show stmtK 34 = true from rfl, Bool.true_and, fits_34 h t hk]
  rw [and_len]
  cases h2 : ((t.l.length : Int) == 2)
  · rw [two_len h2]
    simp
  · obtain ⟨a, b, hl⟩ : ∃ a b, t.l = [a, b] := len_two h2
    rw [hl]
    simp only [kidsB, twoB, exprB, blockB, partB]
    cases t.s.data.toList.isEmpty <;> cases (t.n == 0) <;> simp [Bool.and_assoc]
theorem form_35 (h : Nat) (t : Tree) (hk : t.op = 35) : stmtB (h + 1) t = ((t.n == 0) && (nameB t.s.data.toList && twoB (exprB h) (blockB h) t.l)) := by
  rw [stmtB, hk, show stmtK 35 = true from rfl, Bool.true_and, fits_35 h t hk]
  rw [and_len]
  cases h2 : ((t.l.length : Int) == 2)
  · rw [two_len h2]
    simp
  · obtain ⟨a, b, hl⟩ : ∃ a b, t.l = [a, b] := len_two h2
    rw [hl]
    simp only [kidsB, twoB, exprB, blockB, partB]
    cases nameB t.s.data.toList <;> cases (t.n == 0) <;> simp [Bool.and_assoc]
theorem form_38 (h : Nat) (t : Tree) (hk : t.op = 38) : stmtB (h + 1) t = ((t.n == 0) && (nameB t.s.data.toList && twoB (blockB h) (blockB h) t.l)) := by
  rw [stmtB, hk, show stmtK 38 = true from rfl, Bool.true_and, fits_38 h t hk]
  rw [and_len]
  cases h2 : ((t.l.length : Int) == 2)
  · rw [two_len h2]
    simp
  · obtain ⟨a, b, hl⟩ : ∃ a b, t.l = [a, b] := len_two h2
    rw [hl]
    simp only [kidsB, twoB, blockB, partB]
    cases nameB t.s.data.toList <;> cases (t.n == 0) <;> simp [Bool.and_assoc]
theorem form_41 (h : Nat) (t : Tree) (hk : t.op = 41) : stmtB (h + 1) t = ((t.n == 0) && (nameB t.s.data.toList && funB h t.l)) := by
  rw [stmtB, hk, show stmtK 41 = true from rfl, Bool.true_and, fits_41 h t hk]
  unfold funB
  cases h1 : decide ((1 : Int) ≤ t.l.length)
  · have h2 : decide (1 ≤ t.l.length) = false := (dec1 _).symm.trans h1
    rw [h2]
    simp
  · have h2 : decide (1 ≤ t.l.length) = true := (dec1 _).symm.trans h1
    have h3 : decide ((t.l.length : Int) ≤ 201) = decide (t.l.length ≤ 201) := by rw [Bool.eq_iff_iff]; simp; omega
    rw [h2, h3, kids_fun (.inr rfl) (by omega) (by simpa using h2)]
    cases nameB t.s.data.toList <;> cases decide (t.l.length ≤ 201) <;> cases (t.n == 0) <;> cases lastB h t.l <;> rfl

end Go.Proofs.YtcidccifnaecaaaDoor
