/- Every tree that may be has the text T: all kinds together. -/
import Derived.Test.YtcidccifnaecaaaDoorTxA
import Derived.Test.YtcidccifnaecaaaDoorTxB
import Derived.Test.YtcidccifnaecaaaDoorTxC
import Derived.Test.YtcidccifnaecaaaDoorTxS
import Derived.Test.YtcidccifnaecaaaDoorTxU
import Derived.Test.YtcidccifnaecaaaDoorTxV
import Derived.Test.YtcidccifnaecaaaDoorTxN
import Derived.Test.YtcidccifnaecaaaDoorTxX
import Derived.Test.YtcidccifnaecaaaDoorTxY
import Derived.Test.YtcidccifnaecaaaDoorTxO
import Derived.Test.YtcidccifnaecaaaDoorTxBound
namespace Go.Proofs.YtcidccifnaecaaaDoor
open Go.RowKit

theorem kidsB_at {R : Tree → Bool} {k : Int} {len : Nat} : ∀ {l : List Tree} {i : Nat}, kidsB R k len i l = true → ∀ {j : Nat} {u : Tree}, l[j]? = some u → partB k len (i + j) u.op = true ∧ R u = true
  | [], i, _, j, u, hu => by simp at hu
  | t :: ts, i, h, j, u, hu => by
    rw [kidsB, Bool.and_eq_true, Bool.and_eq_true] at h
    cases j with
    | zero =>
      obtain rfl : t = u := by simpa using hu
      exact h.1
    | succ j =>
      have := kidsB_at h.2 (j := j) (u := u) (by simpa using hu)
      rw [show i + 1 + j = i + (j + 1) by omega] at this
      exact this
theorem fit_open {h : Nat} {t : Tree} {f : Nat} {lo hi : Int} (hf : formF t.op = some (f, lo, hi)) (hfit : fitsB (h + 1) t = true) :
    lo ≤ t.l.length ∧ (t.l.length : Int) ≤ hi ∧ numB t.op t.n = true ∧ ∀ (j : Nat) (u : Tree), t.l[j]? = some u → partB t.op t.l.length j u.op = true ∧ fitsB h u = true := by
  have h1 : fitStep (fitsB h) t = true := hfit
  unfold fitStep at h1
  rw [hf] at h1
  simp only [Bool.and_eq_true, decide_eq_true_eq] at h1
  obtain ⟨⟨⟨⟨_, h2⟩, h3⟩, h4⟩, h5⟩ := h1
  exact ⟨h2, h3, h4, fun j u hu => by
    have := kidsB_at h5 hu
    rwa [Nat.zero_add] at this⟩
theorem lenT0 {l : List Tree} (h : (l.length : Int) ≤ 0) : l = [] := List.eq_nil_of_length_eq_zero (by omega)
theorem lenT1 {l : List Tree} (h : (1 : Int) ≤ l.length) (h1 : (l.length : Int) ≤ 1) : ∃ a, l = [a] := by
  match l, h, h1 with
  | [a], _, _ => exact ⟨a, rfl⟩
  | [], h, _ => simp at h
  | a :: b :: r, _, h => simp at h; omega
theorem lenT2 {l : List Tree} (h : (2 : Int) ≤ l.length) (h1 : (l.length : Int) ≤ 2) : ∃ a b, l = [a, b] := by
  match l, h, h1 with
  | [a, b], _, _ => exact ⟨a, b, rfl⟩
  | [], h, _ => simp at h
  | [a], h, _ => simp at h
  | a :: b :: c :: r, _, h => simp at h; omega
theorem lenT3 {l : List Tree} (h : (3 : Int) ≤ l.length) (h1 : (l.length : Int) ≤ 3) : ∃ a b c, l = [a, b, c] := by
  match l, h, h1 with
  | [a, b, c], _, _ => exact ⟨a, b, c, rfl⟩
  | [], h, _ => simp at h
  | [a], h, _ => simp at h
  | [a, b], h, _ => simp at h
  | a :: b :: c :: d :: r, _, h => simp at h; omega
theorem lenTL {l : List Tree} (h : (1 : Int) ≤ l.length) : ∃ ks b, l = ks ++ [b] := by
  rcases List.eq_nil_or_concat l with rfl | ⟨ks, b, rfl⟩
  · simp at h
  · exact ⟨ks, b, List.concat_eq_append⟩

/-- A tree whose text is short. -/
structure Low (h : Nat) (t : Tree) (i : ByteArray) : Prop where
  wt : t.wt ≤ 68719476736
  lv : i.size + 2 * h ≤ 1000
theorem Low.len {h : Nat} {t : Tree} {i : ByteArray} (q : Low h t i) : (T h t i.data.toList).length ≤ 140737488355328 := by
  have h1 := T_len h t i.data.toList
  have h2 := q.wt
  have h3 := q.lv
  rw [size_list] at h1
  have h4 : t.wt * (1 + i.size + 2 * h) ≤ 68719476736 * 1001 := Nat.mul_le_mul h2 (by omega)
  omega
theorem Low.size {h : Nat} {t : Tree} {i : ByteArray} (q : Low h t i) : t.s.size ≤ maxLen := by
  have h1 := wt_eq t
  have h2 := q.wt
  unfold maxLen
  omega
theorem Low.kid {h : Nat} {t u : Tree} {i : ByteArray} (q : Low (h + 1) t i) (hu : u ∈ t.l) : Low h u i := by
  have h1 := wt_eq t
  have h2 := wts_mem hu
  have h3 := q.wt
  have h4 := q.lv
  exact ⟨by omega, by omega⟩
theorem Low.in_ {h : Nat} {t u : Tree} {i : ByteArray} (q : Low (h + 1) t i) (hu : u ∈ t.l) : Low h u (i ++ ⟨#[32, 32]⟩) := by
  have h1 := q.kid hu
  have h4 := q.lv
  have h5 : (i ++ (⟨#[32, 32]⟩ : ByteArray)).size = i.size + 2 := by rw [← size_list, ← size_list, cat_bytes i [32, 32]]; simp
  exact ⟨h1.wt, by omega⟩

structure AllT (h : Nat) : Prop where
  expr : ∀ (t : Tree) (i : ByteArray), fitsB h t = true → exprK t.op = true → Low h t i → ExprT h t i
  stmt : ∀ (t : Tree) (i : ByteArray), fitsB h t = true → stmtK t.op = true → Low h t i → StmtT h t i
  block : ∀ (t : Tree) (i : ByteArray), fitsB h t = true → t.op = 32 → Low h t i → BlockT h t i

set_option maxHeartbeats 1000000 in
theorem exprT_step (h : Nat) (ih : ∀ k, k < h + 1 → AllT k) (t : Tree) (i : ByteArray) (hfit : fitsB (h + 1) t = true) (hek : exprK t.op = true) (hq : Low (h + 1) t i) : ExprT (h + 1) t i := by
  have P := ih h (by omega)
  simp only [exprK, Bool.and_eq_true, decide_eq_true_eq, Bool.not_eq_true', beq_eq_false_iff_ne] at hek
  have hop' : t.op = 1 ∨ t.op = 2 ∨ t.op = 3 ∨ t.op = 4 ∨ t.op = 5 ∨ t.op = 6 ∨ t.op = 7 ∨ t.op = 8 ∨ t.op = 9 ∨ t.op = 10 ∨ t.op = 11 ∨ t.op = 13 ∨ t.op = 14 ∨ t.op = 15 ∨ t.op = 16 ∨ t.op = 17 ∨ t.op = 18 ∨ t.op = 19 ∨ t.op = 20 ∨ t.op = 21 ∨ t.op = 22 ∨ t.op = 23 := by omega
  rcases hop' with hop | hop | hop | hop | hop | hop | hop | hop | hop | hop | hop | hop | hop | hop | hop | hop | hop | hop | hop | hop | hop | hop
  · obtain ⟨h1, h2, h3, hkid⟩ := fit_open (by rw [hop]; rfl) hfit
    exact text_1 h t i hop
  · obtain ⟨h1, h2, h3, hkid⟩ := fit_open (by rw [hop]; rfl) hfit
    have hn : 0 ≤ t.n ∧ t.n ≤ 999999999999999 := by
      rw [hop] at h3
      simp [numB] at h3
      omega
    exact text_2 h t i hop hn.1 hn.2
  · obtain ⟨h1, h2, h3, hkid⟩ := fit_open (by rw [hop]; rfl) hfit
    exact text_3 h t i hop hq.len hq.size
  · obtain ⟨h1, h2, h3, hkid⟩ := fit_open (by rw [hop]; rfl) hfit
    exact text_4 h t i hop
  · obtain ⟨h1, h2, h3, hkid⟩ := fit_open (by rw [hop]; rfl) hfit
    exact text_5 h t i hop
  · obtain ⟨h1, h2, h3, hkid⟩ := fit_open (by rw [hop]; rfl) hfit
    exact text_6 h t i hop
  · obtain ⟨h1, h2, h3, hkid⟩ := fit_open (by rw [hop]; rfl) hfit
    exact text_7 h t i hop
  · obtain ⟨h1, h2, h3, hkid⟩ := fit_open (by rw [hop]; rfl) hfit
    exact text_8 h t i hop
  · obtain ⟨h1, h2, h3, hkid⟩ := fit_open (by rw [hop]; rfl) hfit
    exact text_9 h t i hop
  · obtain ⟨h1, h2, h3, hkid⟩ := fit_open (by rw [hop]; rfl) hfit
    obtain ⟨ks, b, hta⟩ := lenTL h1
    have hll : t.l.length = ks.length + 1 := by rw [hta]; simp
    have hks : ∀ u, u ∈ ks → ExprT h u i := by
      intro u hu
      obtain ⟨j, hj⟩ := List.getElem?_of_mem hu
      have hjl : j < ks.length := (List.getElem?_eq_some_iff.1 hj).1
      have hju : t.l[j]? = some u := by rw [hta, List.getElem?_append_left hjl]; exact hj
      have hp := hkid j u hju
      refine P.expr u i hp.2 ?_ (hq.kid (List.mem_of_getElem? hju))
      have h9 : u.op = 1 := by
        have := hp.1
        rw [hop, hll] at this
        simp [partB, show ¬ j = ks.length by omega] at this
        exact this
      rw [h9]; decide
    have hbu : t.l[ks.length]? = some b := by rw [hta]; simp
    have hbT : BlockT h b i := by
      have hp := hkid _ b hbu
      refine P.block b i hp.2 ?_ (hq.kid (List.mem_of_getElem? hbu))
      have := hp.1
      rw [hop, hll] at this
      simpa [partB] using this
    have hN : ks.length ≤ 1000 := by omega
    cases hs : t.s.toList.isEmpty with
    | true => exact text_10_none h t i hop hs ks b hta hks hbT hN hq.len
    | false => exact text_10 h t i hop hs ks b hta hks hbT hN hq.len
  · obtain ⟨h1, h2, h3, hkid⟩ := fit_open (by rw [hop]; rfl) hfit
    cases h with
    | zero =>
      cases hl : t.l with
      | nil => exact text_11_none 0 t i hop hl
      | cons a r =>
        have := (hkid 0 a (by rw [hl]; rfl)).2
        simp [fitsB] at this
    | succ h =>
      refine text_11 h t i hop (fun u hu => ?_) (by omega) hq.len
      obtain ⟨j, hj⟩ := List.getElem?_of_mem hu
      have hp := hkid j u hj
      have hop2 : u.op = 12 := by
        have := hp.1
        simpa [partB, hop] using this
      obtain ⟨g1, g2, _, hkid2⟩ := fit_open (t := u) (by rw [hop2]; rfl) hp.2
      obtain ⟨x, hx⟩ := lenT1 g1 g2
      have hpx := hkid2 0 x (by rw [hx]; rfl)
      exact ⟨hop2, (hq.kid hu).size, x, hx, (ih h (by omega)).expr x i hpx.2 (by have := hpx.1; simpa [partB, hop2] using this) ((hq.kid hu).kid (by rw [hx]; simp))⟩
  · obtain ⟨h1, h2, h3, hkid⟩ := fit_open (by rw [hop]; rfl) hfit
    obtain ⟨a, hta⟩ := lenT1 h1 h2
    exact text_13 h t a i hop hta (P.expr a i (hkid 0 a (by rw [hta]; rfl)).2 (by have := (hkid 0 a (by rw [hta]; rfl)).1; simpa [partB, hop, hta] using this) (hq.kid (List.mem_of_getElem? (show t.l[0]? = some a by rw [hta]; rfl)))) hq.len
  · obtain ⟨h1, h2, h3, hkid⟩ := fit_open (by rw [hop]; rfl) hfit
    obtain ⟨a, b, hta⟩ := lenT2 h1 h2
    exact text_14 h t a b i hop hta (P.expr a i (hkid 0 a (by rw [hta]; rfl)).2 (by have := (hkid 0 a (by rw [hta]; rfl)).1; simpa [partB, hop, hta] using this) (hq.kid (List.mem_of_getElem? (show t.l[0]? = some a by rw [hta]; rfl)))) (P.expr b i (hkid 1 b (by rw [hta]; rfl)).2 (by have := (hkid 1 b (by rw [hta]; rfl)).1; simpa [partB, hop, hta] using this) (hq.kid (List.mem_of_getElem? (show t.l[1]? = some b by rw [hta]; rfl)))) hq.len
  · obtain ⟨h1, h2, h3, hkid⟩ := fit_open (by rw [hop]; rfl) hfit
    obtain ⟨a, r, hta⟩ : ∃ a r, t.l = a :: r := by
      cases hl : t.l with
      | nil => rw [hl] at h1; simp at h1
      | cons a r => exact ⟨a, r, rfl⟩
    have hall : ∀ j u, t.l[j]? = some u → ExprT h u i := fun j u hu => P.expr u i (hkid j u hu).2 (by have := (hkid j u hu).1; simpa [partB, hop] using this) (hq.kid (List.mem_of_getElem? hu))
    have hca := hall 0 a (by rw [hta]; rfl)
    have hcr : ∀ u, u ∈ r → ExprT h u i := by
      intro u hu
      obtain ⟨j, hj⟩ := List.getElem?_of_mem hu
      exact hall (j + 1) u (by rw [hta]; simpa using hj)
    have hN : r.length ≤ 1000 := by rw [hta] at h2; simp at h2; omega
    exact text_15 h t a r i hop hta hca hcr hN hq.len
  · obtain ⟨h1, h2, h3, hkid⟩ := fit_open (by rw [hop]; rfl) hfit
    obtain ⟨a, r, hta⟩ : ∃ a r, t.l = a :: r := by
      cases hl : t.l with
      | nil => rw [hl] at h1; simp at h1
      | cons a r => exact ⟨a, r, rfl⟩
    have hall : ∀ j u, t.l[j]? = some u → ExprT h u i := fun j u hu => P.expr u i (hkid j u hu).2 (by have := (hkid j u hu).1; simpa [partB, hop] using this) (hq.kid (List.mem_of_getElem? hu))
    have hca := hall 0 a (by rw [hta]; rfl)
    have hcr : ∀ u, u ∈ r → ExprT h u i := by
      intro u hu
      obtain ⟨j, hj⟩ := List.getElem?_of_mem hu
      exact hall (j + 1) u (by rw [hta]; simpa using hj)
    have hN : r.length ≤ 1000 := by rw [hta] at h2; simp at h2; omega
    by_cases hao : a.op = 1
    · exact text_16_id h t a r i hop hao hta hca hcr hN hq.len
    · exact text_16 h t a r i hop hao hta hca hcr hN hq.len
  · obtain ⟨h1, h2, h3, hkid⟩ := fit_open (by rw [hop]; rfl) hfit
    obtain ⟨a, b, hta⟩ := lenT2 h1 h2
    exact text_17 h t a b i hop hta (P.expr a i (hkid 0 a (by rw [hta]; rfl)).2 (by have := (hkid 0 a (by rw [hta]; rfl)).1; simp [partB, hop] at this; rcases this with (h9 | h9) | h9 <;> rw [h9] <;> decide) (hq.kid (List.mem_of_getElem? (show t.l[0]? = some a by rw [hta]; rfl)))) (P.expr b i (hkid 1 b (by rw [hta]; rfl)).2 (by have := (hkid 1 b (by rw [hta]; rfl)).1; simpa [partB, hop, hta] using this) (hq.kid (List.mem_of_getElem? (show t.l[1]? = some b by rw [hta]; rfl)))) hq.len
  · obtain ⟨h1, h2, h3, hkid⟩ := fit_open (by rw [hop]; rfl) hfit
    obtain ⟨a, b, hta⟩ := lenT2 h1 h2
    exact text_18 h t a b i hop hta (P.expr a i (hkid 0 a (by rw [hta]; rfl)).2 (by have := (hkid 0 a (by rw [hta]; rfl)).1; simpa [partB, hop, hta] using this) (hq.kid (List.mem_of_getElem? (show t.l[0]? = some a by rw [hta]; rfl)))) (P.expr b i (hkid 1 b (by rw [hta]; rfl)).2 (by have := (hkid 1 b (by rw [hta]; rfl)).1; simpa [partB, hop, hta] using this) (hq.kid (List.mem_of_getElem? (show t.l[1]? = some b by rw [hta]; rfl)))) hq.len
  · obtain ⟨h1, h2, h3, hkid⟩ := fit_open (by rw [hop]; rfl) hfit
    obtain ⟨a, hta⟩ := lenT1 h1 h2
    exact text_19 h t a i hop hta (P.expr a i (hkid 0 a (by rw [hta]; rfl)).2 (by have := (hkid 0 a (by rw [hta]; rfl)).1; simpa [partB, hop, hta] using this) (hq.kid (List.mem_of_getElem? (show t.l[0]? = some a by rw [hta]; rfl)))) hq.len
  · obtain ⟨h1, h2, h3, hkid⟩ := fit_open (by rw [hop]; rfl) hfit
    obtain ⟨a, hta⟩ := lenT1 h1 h2
    exact text_20 h t a i hop hta (P.expr a i (hkid 0 a (by rw [hta]; rfl)).2 (by have := (hkid 0 a (by rw [hta]; rfl)).1; simpa [partB, hop, hta] using this) (hq.kid (List.mem_of_getElem? (show t.l[0]? = some a by rw [hta]; rfl)))) hq.len
  · obtain ⟨h1, h2, h3, hkid⟩ := fit_open (by rw [hop]; rfl) hfit
    obtain ⟨a, b, hta⟩ := lenT2 h1 h2
    exact text_21 h t a b i hop hta (P.expr a i (hkid 0 a (by rw [hta]; rfl)).2 (by have := (hkid 0 a (by rw [hta]; rfl)).1; simpa [partB, hop, hta] using this) (hq.kid (List.mem_of_getElem? (show t.l[0]? = some a by rw [hta]; rfl)))) (P.expr b i (hkid 1 b (by rw [hta]; rfl)).2 (by have := (hkid 1 b (by rw [hta]; rfl)).1; simpa [partB, hop, hta] using this) (hq.kid (List.mem_of_getElem? (show t.l[1]? = some b by rw [hta]; rfl)))) hq.len
  · obtain ⟨h1, h2, h3, hkid⟩ := fit_open (by rw [hop]; rfl) hfit
    obtain ⟨a, b, hta⟩ := lenT2 h1 h2
    exact text_22 h t a b i hop hta (P.expr a i (hkid 0 a (by rw [hta]; rfl)).2 (by have := (hkid 0 a (by rw [hta]; rfl)).1; simpa [partB, hop, hta] using this) (hq.kid (List.mem_of_getElem? (show t.l[0]? = some a by rw [hta]; rfl)))) (P.expr b i (hkid 1 b (by rw [hta]; rfl)).2 (by have := (hkid 1 b (by rw [hta]; rfl)).1; simpa [partB, hop, hta] using this) (hq.kid (List.mem_of_getElem? (show t.l[1]? = some b by rw [hta]; rfl)))) hq.len
  · obtain ⟨h1, h2, h3, hkid⟩ := fit_open (by rw [hop]; rfl) hfit
    obtain ⟨a, b, g, hta⟩ := lenT3 h1 h2
    exact text_23 h t a b g i hop hta (P.expr a i (hkid 0 a (by rw [hta]; rfl)).2 (by have := (hkid 0 a (by rw [hta]; rfl)).1; simpa [partB, hop, hta] using this) (hq.kid (List.mem_of_getElem? (show t.l[0]? = some a by rw [hta]; rfl)))) (P.expr b i (hkid 1 b (by rw [hta]; rfl)).2 (by have := (hkid 1 b (by rw [hta]; rfl)).1; simpa [partB, hop, hta] using this) (hq.kid (List.mem_of_getElem? (show t.l[1]? = some b by rw [hta]; rfl)))) (P.expr g i (hkid 2 g (by rw [hta]; rfl)).2 (by have := (hkid 2 g (by rw [hta]; rfl)).1; simpa [partB, hop, hta] using this) (hq.kid (List.mem_of_getElem? (show t.l[2]? = some g by rw [hta]; rfl)))) hq.len

set_option maxHeartbeats 1000000 in
theorem stmtT_step (h : Nat) (P : AllT h) (t : Tree) (i : ByteArray) (hblk : t.op = 32 → BlockT (h + 1) t i) (hfit : fitsB (h + 1) t = true) (hek : stmtK t.op = true) (hq : Low (h + 1) t i) : StmtT (h + 1) t i := by
  simp only [stmtK, Bool.and_eq_true, decide_eq_true_eq] at hek
  have hop' : t.op = 30 ∨ t.op = 31 ∨ t.op = 32 ∨ t.op = 33 ∨ t.op = 34 ∨ t.op = 35 ∨ t.op = 36 ∨ t.op = 37 ∨ t.op = 38 ∨ t.op = 39 ∨ t.op = 40 ∨ t.op = 41 := by omega
  rcases hop' with hop | hop | hop | hop | hop | hop | hop | hop | hop | hop | hop | hop
  · obtain ⟨h1, h2, h3, hkid⟩ := fit_open (by rw [hop]; rfl) hfit
    by_cases h0 : t.l = []
    · exact stext_30_none h t i hop h0 hq.len
    · obtain ⟨a, hta⟩ := lenT1 (l := t.l) (by have := List.length_pos_iff.2 h0; omega) h2
      exact stext_30 h t a i hop hta (P.expr a i (hkid 0 a (by rw [hta]; rfl)).2 (by have := (hkid 0 a (by rw [hta]; rfl)).1; simpa [partB, hop, hta] using this) (hq.kid (List.mem_of_getElem? (show t.l[0]? = some a by rw [hta]; rfl)))) hq.len
  · obtain ⟨h1, h2, h3, hkid⟩ := fit_open (by rw [hop]; rfl) hfit
    obtain ⟨a, hta⟩ := lenT1 h1 h2
    exact stext_31 h t a i hop hta (P.expr a i (hkid 0 a (by rw [hta]; rfl)).2 (by have := (hkid 0 a (by rw [hta]; rfl)).1; simpa [partB, hop, hta] using this) (hq.kid (List.mem_of_getElem? (show t.l[0]? = some a by rw [hta]; rfl)))) hq.len
  · exact stext_32 h t i hop (hblk hop)
  · obtain ⟨h1, h2, h3, hkid⟩ := fit_open (by rw [hop]; rfl) hfit
    by_cases h9 : t.l.length = 2
    · obtain ⟨a, b, hta⟩ := lenT2 (l := t.l) (by omega) (by omega)
      exact stext_33 h t a b i hop hta (P.expr a i (hkid 0 a (by rw [hta]; rfl)).2 (by have := (hkid 0 a (by rw [hta]; rfl)).1; simpa [partB, hop, hta] using this) (hq.kid (List.mem_of_getElem? (show t.l[0]? = some a by rw [hta]; rfl)))) (P.block b i (hkid 1 b (by rw [hta]; rfl)).2 (by have := (hkid 1 b (by rw [hta]; rfl)).1; simpa [partB, hop, hta] using this) (hq.kid (List.mem_of_getElem? (show t.l[1]? = some b by rw [hta]; rfl)))) hq.len
    · obtain ⟨a, b, g, hta⟩ := lenT3 (l := t.l) (by omega) (by omega)
      exact stext_33_three h t a b g i hop hta (P.expr a i (hkid 0 a (by rw [hta]; rfl)).2 (by have := (hkid 0 a (by rw [hta]; rfl)).1; simpa [partB, hop, hta] using this) (hq.kid (List.mem_of_getElem? (show t.l[0]? = some a by rw [hta]; rfl)))) (P.block b i (hkid 1 b (by rw [hta]; rfl)).2 (by have := (hkid 1 b (by rw [hta]; rfl)).1; simpa [partB, hop, hta] using this) (hq.kid (List.mem_of_getElem? (show t.l[1]? = some b by rw [hta]; rfl)))) (P.block g i (hkid 2 g (by rw [hta]; rfl)).2 (by have := (hkid 2 g (by rw [hta]; rfl)).1; simpa [partB, hop, hta] using this) (hq.kid (List.mem_of_getElem? (show t.l[2]? = some g by rw [hta]; rfl)))) hq.len
  · obtain ⟨h1, h2, h3, hkid⟩ := fit_open (by rw [hop]; rfl) hfit
    obtain ⟨a, b, hta⟩ := lenT2 h1 h2
    exact stext_34 h t a b i hop hta (P.expr a i (hkid 0 a (by rw [hta]; rfl)).2 (by have := (hkid 0 a (by rw [hta]; rfl)).1; simpa [partB, hop, hta] using this) (hq.kid (List.mem_of_getElem? (show t.l[0]? = some a by rw [hta]; rfl)))) (P.block b i (hkid 1 b (by rw [hta]; rfl)).2 (by have := (hkid 1 b (by rw [hta]; rfl)).1; simpa [partB, hop, hta] using this) (hq.kid (List.mem_of_getElem? (show t.l[1]? = some b by rw [hta]; rfl)))) hq.len
  · obtain ⟨h1, h2, h3, hkid⟩ := fit_open (by rw [hop]; rfl) hfit
    obtain ⟨a, b, hta⟩ := lenT2 h1 h2
    exact stext_35 h t a b i hop hta (P.expr a i (hkid 0 a (by rw [hta]; rfl)).2 (by have := (hkid 0 a (by rw [hta]; rfl)).1; simpa [partB, hop, hta] using this) (hq.kid (List.mem_of_getElem? (show t.l[0]? = some a by rw [hta]; rfl)))) (P.block b i (hkid 1 b (by rw [hta]; rfl)).2 (by have := (hkid 1 b (by rw [hta]; rfl)).1; simpa [partB, hop, hta] using this) (hq.kid (List.mem_of_getElem? (show t.l[1]? = some b by rw [hta]; rfl)))) hq.len
  · obtain ⟨h1, h2, h3, hkid⟩ := fit_open (by rw [hop]; rfl) hfit
    by_cases h0 : t.l = []
    · exact stext_36_none h t i hop h0
    · obtain ⟨a, hta⟩ := lenT1 (l := t.l) (by have := List.length_pos_iff.2 h0; omega) h2
      exact stext_36 h t a i hop hta (P.expr a i (hkid 0 a (by rw [hta]; rfl)).2 (by have := (hkid 0 a (by rw [hta]; rfl)).1; simpa [partB, hop, hta] using this) (hq.kid (List.mem_of_getElem? (show t.l[0]? = some a by rw [hta]; rfl)))) hq.len
  · obtain ⟨h1, h2, h3, hkid⟩ := fit_open (by rw [hop]; rfl) hfit
    obtain ⟨a, hta⟩ := lenT1 h1 h2
    exact stext_37 h t a i hop hta (P.expr a i (hkid 0 a (by rw [hta]; rfl)).2 (by have := (hkid 0 a (by rw [hta]; rfl)).1; simpa [partB, hop, hta] using this) (hq.kid (List.mem_of_getElem? (show t.l[0]? = some a by rw [hta]; rfl)))) hq.len
  · obtain ⟨h1, h2, h3, hkid⟩ := fit_open (by rw [hop]; rfl) hfit
    obtain ⟨a, b, hta⟩ := lenT2 h1 h2
    exact stext_38 h t a b i hop hta (P.block a i (hkid 0 a (by rw [hta]; rfl)).2 (by have := (hkid 0 a (by rw [hta]; rfl)).1; simpa [partB, hop, hta] using this) (hq.kid (List.mem_of_getElem? (show t.l[0]? = some a by rw [hta]; rfl)))) (P.block b i (hkid 1 b (by rw [hta]; rfl)).2 (by have := (hkid 1 b (by rw [hta]; rfl)).1; simpa [partB, hop, hta] using this) (hq.kid (List.mem_of_getElem? (show t.l[1]? = some b by rw [hta]; rfl)))) hq.len
  · exact stext_39 h t i hop
  · exact stext_40 h t i hop
  · obtain ⟨h1, h2, h3, hkid⟩ := fit_open (by rw [hop]; rfl) hfit
    obtain ⟨ks, b, hta⟩ := lenTL h1
    have hll : t.l.length = ks.length + 1 := by rw [hta]; simp
    have hks : ∀ u, u ∈ ks → ExprT h u i := by
      intro u hu
      obtain ⟨j, hj⟩ := List.getElem?_of_mem hu
      have hjl : j < ks.length := (List.getElem?_eq_some_iff.1 hj).1
      have hju : t.l[j]? = some u := by rw [hta, List.getElem?_append_left hjl]; exact hj
      have hp := hkid j u hju
      refine P.expr u i hp.2 ?_ (hq.kid (List.mem_of_getElem? hju))
      have h9 : u.op = 1 := by
        have := hp.1
        rw [hop, hll] at this
        simp [partB, show ¬ j = ks.length by omega] at this
        exact this
      rw [h9]; decide
    have hbu : t.l[ks.length]? = some b := by rw [hta]; simp
    have hbT : BlockT h b i := by
      have hp := hkid _ b hbu
      refine P.block b i hp.2 ?_ (hq.kid (List.mem_of_getElem? hbu))
      have := hp.1
      rw [hop, hll] at this
      simpa [partB] using this
    have hN : ks.length ≤ 1000 := by omega
    exact stext_41 h t i hop ks b hta hks hbT hN hq.len

theorem allT : ∀ h, AllT h := by
  intro h
  induction h using Nat.strongRecOn with
  | _ h ih =>
    cases h with
    | zero => exact ⟨fun t i hf => by simp [fitsB] at hf, fun t i hf => by simp [fitsB] at hf, fun t i hf => by simp [fitsB] at hf⟩
    | succ h =>
      have P := ih h (by omega)
      have hB : ∀ (t : Tree) (i : ByteArray), fitsB (h + 1) t = true → t.op = 32 → Low (h + 1) t i → BlockT (h + 1) t i := by
        intro t i hfit hop hq
        obtain ⟨_, _, _, hkid⟩ := fit_open (by rw [hop]; rfl) hfit
        refine block_calls h t i hop (fun u hu => ?_) hq.len (by have := hq.lv; omega)
        obtain ⟨j, hj⟩ := List.getElem?_of_mem hu
        have hp := hkid j u hj
        exact P.stmt u _ hp.2 (by have := hp.1; simpa [partB, hop] using this) (hq.in_ hu)
      exact ⟨fun t i hf he hq => exprT_step h ih t i hf he hq, fun t i hf he hq => stmtT_step h P t i (fun hop => hB t i hf hop hq) hf he hq, hB⟩

end Go.Proofs.YtcidccifnaecaaaDoor
