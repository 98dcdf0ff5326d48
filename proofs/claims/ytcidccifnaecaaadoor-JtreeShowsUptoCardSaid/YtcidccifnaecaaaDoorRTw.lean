/- The document's text of every tree that fits; Show; the walk of JtreeShows: true, where the tree's texts are short. -/
import Derived.Test.YtcidccifnaecaaaDoorRTa
import Derived.Test.YtcidccifnaecaaaDoorRTd
import Derived.Test.YtcidccifnaecaaaDoorTxAll
import Derived.Test.YtcidccifnaecaaaDoorWParts
import Derived.Test.YtcidccifnaecaaaDoorRdoc
namespace Go.Proofs.YtcidccifnaecaaaDoor
open Go.RowKit

theorem wts_app : ∀ (a b : List Tree), wts (a ++ b) = wts a + wts b
  | [], b => by simp [wts]
  | t :: a, b => by rw [List.cons_append, wts, wts_app a b, wts]; omega
theorem low_sum {h : Nat} {l : List Tree} {i : ByteArray} (hw : wts l ≤ 68719476736) (hlv : i.size + 2 * h ≤ 1000) : sumL 2 (l.map fun u => T h u i.data.toList) ≤ 140737488355328 := by
  have h1 := parts_len (R := T h) (i := i.data.toList) (K := 1 + i.data.toList.length + 2 * h) (l := l) fun u _ => T_len h u i.data.toList
  rw [size_list] at h1
  have h4 : wts l * (1 + i.size + 2 * h) ≤ 68719476736 * 1001 := Nat.mul_le_mul hw (by omega)
  omega
theorem itoa_ne (n : Int) : Lib.itoa n ≠ [] := by
  intro e
  have h1 : ∀ u : Nat, Lib.decDigits u ≠ [] := by
    intro u
    rw [Lib.decDigits]
    split <;> simp
  rcases Int.lt_or_le n 0 with h | h
  · have := Lib.itoa_neg n.natAbs (by omega)
    rw [show -((n.natAbs : Nat) : Int) = n by omega, e] at this
    cases this
  · have := Lib.itoa_nonneg n.toNat
    rw [Int.toNat_of_nonneg h, e] at this
    exact h1 _ this.symm
theorem word_ne (k : Int) : wordOf k ≠ [] := by
  unfold wordOf
  repeat' split
  all_goals simp
theorem quote_ne (s : List UInt8) : quoteL s ≠ [] := by simp [quoteL]
theorem ite_ne {p : Prop} [Decidable p] {a b : List UInt8} (ha : p → a ≠ []) (hb : ¬ p → b ≠ []) : (if p then a else b) ≠ [] := by
  by_cases h : p
  · rw [if_pos h]; exact ha h
  · rw [if_neg h]; exact hb h
theorem T_ne {h : Nat} {t : Tree} {i : List UInt8} (hfit : fitsB h t = true) : T h t i ≠ [] := by
  cases h with
  | zero => simp [fitsB] at hfit
  | succ h =>
    have ht : t.op = 1 → t.s.data.toList ≠ [] := by
      intro hop
      have h1 : fitStep (fitsB h) t = true := hfit
      unfold fitStep at h1
      rw [show formF t.op = some (37, 0, 0) by rw [hop]; rfl] at h1
      simp only [Bool.and_eq_true] at h1
      have h2 := h1.1.1.1.1
      rw [hop] at h2
      intro e
      rw [e] at h2
      exact absurd h2 (by decide)
    show stepT (T h) t i ≠ []
    unfold stepT
    simp only
    by_cases h1 : t.op = 1
    · rw [if_pos h1]; exact ht h1
    · rw [if_neg h1]
      by_cases h2 : t.op = 2
      · rw [if_pos h2]; exact itoa_ne _
      · rw [if_neg h2]
        by_cases h3 : t.op = 3
        · rw [if_pos h3]; exact quote_ne _
        · rw [if_neg h3]
          by_cases h4 : 4 ≤ t.op ∧ t.op ≤ 9
          · rw [if_pos h4]; exact word_ne _
          · rw [if_neg h4]
            repeat' (refine ite_ne (fun _ => ?_) (fun _ => ?_))
            all_goals first
              | (simp; done)
              | (split <;> simp)

structure AllD (h : Nat) : Prop where
  expr : ∀ (t : Tree) (i : ByteArray), fitsB h t = true → exprK t.op = true → Low h t i → ExprD h t i
  stmt : ∀ (t : Tree) (i : ByteArray), fitsB h t = true → stmtK t.op = true → Low h t i → StmtD h t i
  block : ∀ (t : Tree) (i : ByteArray), fitsB h t = true → t.op = 32 → Low h t i → BlockD h t i

set_option maxHeartbeats 1000000 in
theorem exprD_step (h : Nat) (ih : ∀ k, k < h + 1 → AllD k) (t : Tree) (i : ByteArray) (hfit : fitsB (h + 1) t = true) (hek : exprK t.op = true) (hq : Low (h + 1) t i) : ExprD (h + 1) t i := by
  have P := ih h (by omega)
  simp only [exprK, Bool.and_eq_true, decide_eq_true_eq, Bool.not_eq_true', beq_eq_false_iff_ne] at hek
  have hop' : t.op = 1 ∨ t.op = 2 ∨ t.op = 3 ∨ t.op = 4 ∨ t.op = 5 ∨ t.op = 6 ∨ t.op = 7 ∨ t.op = 8 ∨ t.op = 9 ∨ t.op = 10 ∨ t.op = 11 ∨ t.op = 13 ∨ t.op = 14 ∨ t.op = 15 ∨ t.op = 16 ∨ t.op = 17 ∨ t.op = 18 ∨ t.op = 19 ∨ t.op = 20 ∨ t.op = 21 ∨ t.op = 22 ∨ t.op = 23 := by omega
  rcases hop' with hop | hop | hop | hop | hop | hop | hop | hop | hop | hop | hop | hop | hop | hop | hop | hop | hop | hop | hop | hop | hop | hop
  · obtain ⟨h1, h2, h3, hkid⟩ := fit_open (by rw [hop]; rfl) hfit
    exact rtext_1 h t i hop
  · obtain ⟨h1, h2, h3, hkid⟩ := fit_open (by rw [hop]; rfl) hfit
    have hn : 0 ≤ t.n ∧ t.n ≤ 999999999999999 := by
      rw [hop] at h3
      simp [numB] at h3
      omega
    exact rtext_2 h t i hop hn.1 hn.2
  · obtain ⟨h1, h2, h3, hkid⟩ := fit_open (by rw [hop]; rfl) hfit
    have hwt := wt_eq t
    have hql := hq.wt
    have hlv := hq.lv
    exact rtext_3 h t i hop (by omega)
  · obtain ⟨h1, h2, h3, hkid⟩ := fit_open (by rw [hop]; rfl) hfit
    exact rtext_4 h t i hop
  · obtain ⟨h1, h2, h3, hkid⟩ := fit_open (by rw [hop]; rfl) hfit
    exact rtext_5 h t i hop
  · obtain ⟨h1, h2, h3, hkid⟩ := fit_open (by rw [hop]; rfl) hfit
    exact rtext_6 h t i hop
  · obtain ⟨h1, h2, h3, hkid⟩ := fit_open (by rw [hop]; rfl) hfit
    exact rtext_7 h t i hop
  · obtain ⟨h1, h2, h3, hkid⟩ := fit_open (by rw [hop]; rfl) hfit
    exact rtext_8 h t i hop
  · obtain ⟨h1, h2, h3, hkid⟩ := fit_open (by rw [hop]; rfl) hfit
    exact rtext_9 h t i hop
  · obtain ⟨h1, h2, h3, hkid⟩ := fit_open (by rw [hop]; rfl) hfit
    obtain ⟨ks, b, hta⟩ := lenTL h1
    have hll : t.l.length = ks.length + 1 := by rw [hta]; simp
    have hbu : t.l[ks.length]? = some b := by rw [hta]; simp
    have hbm := List.mem_of_getElem? hbu
    have hbp := hkid _ b hbu
    have hb32 : b.op = 32 := by
      have := hbp.1
      rw [hop, hll] at this
      simpa [partB] using this
    have hN : ks.length ≤ 1000 := by omega
    cases h with
    | zero => have := hbp.2; simp [fitsB] at this
    | succ h =>
    have hks : ∀ u, u ∈ ks → ExprD (h + 1) u i := by
      intro u hu
      obtain ⟨j, hj⟩ := List.getElem?_of_mem hu
      have hjl : j < ks.length := (List.getElem?_eq_some_iff.1 hj).1
      have hju : t.l[j]? = some u := by rw [hta, List.getElem?_append_left hjl]; exact hj
      have hp := hkid j u hju
      refine P.expr u i hp.2 ?_ (hq.kid (List.mem_of_getElem? hju))
      have h9 : u.op = 1 := by
        have := hp.1
        rw [hop, hll] at this
        simp [partB, show ¬ j = ks.length by omega] at this
        exact this
      rw [h9]; decide
    have hbs : ∀ u, u ∈ b.l → StmtD h u (i ++ ⟨#[32, 32]⟩) := by
      obtain ⟨_, _, _, hkid2⟩ := fit_open (t := b) (by rw [hb32]; rfl) hbp.2
      intro u hu
      obtain ⟨j, hj⟩ := List.getElem?_of_mem hu
      have hp := hkid2 j u hj
      exact (ih h (by omega)).stmt u _ hp.2 (by have := hp.1; simpa [partB, hb32] using this) ((hq.kid hbm).in_ hu)
    have hwt := wt_eq t
    have hql := hq.wt
    have hlv := hq.lv
    have hwl : wts t.l = wts ks + wts [b] := by rw [hta, wts_app]
    have hS := low_sum (h := h + 1) (l := ks) (i := i) (by omega) (by omega)
    cases hs : t.s.toList.isEmpty with
    | true => exact rtext_10_none h t i hop hs ks b hta hb32 hks hbs hS (by omega) hN hq.len
    | false => exact rtext_10 h t i hop hs ks b hta hb32 hks hbs hS (by omega) hN hq.len
  · obtain ⟨h1, h2, h3, hkid⟩ := fit_open (by rw [hop]; rfl) hfit
    have hwt := wt_eq t
    have hql := hq.wt
    have hlv := hq.lv
    cases h with
    | zero =>
      cases hl : t.l with
      | nil => exact rtext_11_none t i hop hl
      | cons a r =>
        have := (hkid 0 a (by rw [hl]; rfl)).2
        simp [fitsB] at this
    | succ h =>
      refine rtext_11 h t i hop (fun u hu => ?_) (low_sum (h := h + 1) (l := t.l) (i := i) (by omega) (by omega))
      obtain ⟨j, hj⟩ := List.getElem?_of_mem hu
      have hp := hkid j u hj
      have hop2 : u.op = 12 := by
        have := hp.1
        simpa [partB, hop] using this
      obtain ⟨g1, g2, _, hkid2⟩ := fit_open (t := u) (by rw [hop2]; rfl) hp.2
      obtain ⟨x, hx⟩ := lenT1 g1 g2
      have hpx := hkid2 0 x (by rw [hx]; rfl)
      have hqu := (hq.kid hu).wt
      have hwu := wt_eq u
      exact ⟨hop2, by omega, x, hx, (ih h (by omega)).expr x i hpx.2 (by have := hpx.1; simpa [partB, hop2] using this) ((hq.kid hu).kid (by rw [hx]; simp))⟩
  · obtain ⟨h1, h2, h3, hkid⟩ := fit_open (by rw [hop]; rfl) hfit
    obtain ⟨a, hta⟩ := lenT1 h1 h2
    by_cases hao : a.op = 2
    · exact rtext_more h t i (by omega) (rmore_13n h t a i hop hta hao (P.expr a i (hkid 0 a (by rw [hta]; rfl)).2 (by have := (hkid 0 a (by rw [hta]; rfl)).1; simpa [partB, hop, hta] using this) (hq.kid (List.mem_of_getElem? (show t.l[0]? = some a by rw [hta]; rfl)))) hq.len)
    · exact rtext_more h t i (by omega) (rmore_13 h t a i hop hta hao (P.expr a i (hkid 0 a (by rw [hta]; rfl)).2 (by have := (hkid 0 a (by rw [hta]; rfl)).1; simpa [partB, hop, hta] using this) (hq.kid (List.mem_of_getElem? (show t.l[0]? = some a by rw [hta]; rfl)))) hq.len)
  · obtain ⟨h1, h2, h3, hkid⟩ := fit_open (by rw [hop]; rfl) hfit
    obtain ⟨a, b, hta⟩ := lenT2 h1 h2
    exact rtext_more h t i (by omega) (rmore_14 h t a b i hop hta (P.expr a i (hkid 0 a (by rw [hta]; rfl)).2 (by have := (hkid 0 a (by rw [hta]; rfl)).1; simpa [partB, hop, hta] using this) (hq.kid (List.mem_of_getElem? (show t.l[0]? = some a by rw [hta]; rfl)))) (P.expr b i (hkid 1 b (by rw [hta]; rfl)).2 (by have := (hkid 1 b (by rw [hta]; rfl)).1; simpa [partB, hop, hta] using this) (hq.kid (List.mem_of_getElem? (show t.l[1]? = some b by rw [hta]; rfl)))) hq.len)
  · obtain ⟨h1, h2, h3, hkid⟩ := fit_open (by rw [hop]; rfl) hfit
    obtain ⟨a, r, hta⟩ : ∃ a r, t.l = a :: r := by
      cases hl : t.l with
      | nil => rw [hl] at h1; simp at h1
      | cons a r => exact ⟨a, r, rfl⟩
    have hall : ∀ j u, t.l[j]? = some u → ExprD h u i := fun j u hu => P.expr u i (hkid j u hu).2 (by have := (hkid j u hu).1; simpa [partB, hop] using this) (hq.kid (List.mem_of_getElem? hu))
    have hca := hall 0 a (by rw [hta]; rfl)
    have hcr : ∀ u, u ∈ r → ExprD h u i := by
      intro u hu
      obtain ⟨j, hj⟩ := List.getElem?_of_mem hu
      exact hall (j + 1) u (by rw [hta]; simpa using hj)
    have hwt := wt_eq t
    have hql := hq.wt
    have hlv := hq.lv
    have hwl : wts t.l = a.wt + wts r := by rw [hta]; rfl
    have hS := low_sum (h := h) (l := r) (i := i) (by omega) (by omega)
    exact rtext_more h t i (by omega) (rmore_15 h t a r i hop hta hca hcr hS hq.len)
  · obtain ⟨h1, h2, h3, hkid⟩ := fit_open (by rw [hop]; rfl) hfit
    obtain ⟨a, r, hta⟩ : ∃ a r, t.l = a :: r := by
      cases hl : t.l with
      | nil => rw [hl] at h1; simp at h1
      | cons a r => exact ⟨a, r, rfl⟩
    have hall : ∀ j u, t.l[j]? = some u → ExprD h u i := fun j u hu => P.expr u i (hkid j u hu).2 (by have := (hkid j u hu).1; simpa [partB, hop] using this) (hq.kid (List.mem_of_getElem? hu))
    have hca := hall 0 a (by rw [hta]; rfl)
    have hcr : ∀ u, u ∈ r → ExprD h u i := by
      intro u hu
      obtain ⟨j, hj⟩ := List.getElem?_of_mem hu
      exact hall (j + 1) u (by rw [hta]; simpa using hj)
    have hwt := wt_eq t
    have hql := hq.wt
    have hlv := hq.lv
    have hwl : wts t.l = a.wt + wts r := by rw [hta]; rfl
    have hS := low_sum (h := h) (l := r) (i := i) (by omega) (by omega)
    by_cases hao : a.op = 1
    · exact rtext_more h t i (by omega) (rmore_16_id h t a r i hop hao hta hca hcr hS hq.len)
    · exact rtext_more h t i (by omega) (rmore_16 h t a r i hop hao hta hca hcr hS hq.len)
  · obtain ⟨h1, h2, h3, hkid⟩ := fit_open (by rw [hop]; rfl) hfit
    obtain ⟨a, b, hta⟩ := lenT2 h1 h2
    exact rtext_more h t i (by omega) (rmore_17 h t a b i hop hta (P.expr a i (hkid 0 a (by rw [hta]; rfl)).2 (by have := (hkid 0 a (by rw [hta]; rfl)).1; simp [partB, hop] at this; rcases this with (h9 | h9) | h9 <;> rw [h9] <;> decide) (hq.kid (List.mem_of_getElem? (show t.l[0]? = some a by rw [hta]; rfl)))) (P.expr b i (hkid 1 b (by rw [hta]; rfl)).2 (by have := (hkid 1 b (by rw [hta]; rfl)).1; simpa [partB, hop, hta] using this) (hq.kid (List.mem_of_getElem? (show t.l[1]? = some b by rw [hta]; rfl)))) hq.len)
  · obtain ⟨h1, h2, h3, hkid⟩ := fit_open (by rw [hop]; rfl) hfit
    obtain ⟨a, b, hta⟩ := lenT2 h1 h2
    exact rtext_more h t i (by omega) (rmore_18 h t a b i hop hta (P.expr a i (hkid 0 a (by rw [hta]; rfl)).2 (by have := (hkid 0 a (by rw [hta]; rfl)).1; simpa [partB, hop, hta] using this) (hq.kid (List.mem_of_getElem? (show t.l[0]? = some a by rw [hta]; rfl)))) (P.expr b i (hkid 1 b (by rw [hta]; rfl)).2 (by have := (hkid 1 b (by rw [hta]; rfl)).1; simpa [partB, hop, hta] using this) (hq.kid (List.mem_of_getElem? (show t.l[1]? = some b by rw [hta]; rfl)))) hq.len)
  · obtain ⟨h1, h2, h3, hkid⟩ := fit_open (by rw [hop]; rfl) hfit
    obtain ⟨a, hta⟩ := lenT1 h1 h2
    exact rtext_more h t i (by omega) (rmore_19 h t a i hop hta (P.expr a i (hkid 0 a (by rw [hta]; rfl)).2 (by have := (hkid 0 a (by rw [hta]; rfl)).1; simpa [partB, hop, hta] using this) (hq.kid (List.mem_of_getElem? (show t.l[0]? = some a by rw [hta]; rfl)))) hq.len)
  · obtain ⟨h1, h2, h3, hkid⟩ := fit_open (by rw [hop]; rfl) hfit
    obtain ⟨a, hta⟩ := lenT1 h1 h2
    exact rtext_more h t i (by omega) (rmore_20 h t a i hop hta (P.expr a i (hkid 0 a (by rw [hta]; rfl)).2 (by have := (hkid 0 a (by rw [hta]; rfl)).1; simpa [partB, hop, hta] using this) (hq.kid (List.mem_of_getElem? (show t.l[0]? = some a by rw [hta]; rfl)))) hq.len)
  · obtain ⟨h1, h2, h3, hkid⟩ := fit_open (by rw [hop]; rfl) hfit
    obtain ⟨a, b, hta⟩ := lenT2 h1 h2
    exact rtext_more h t i (by omega) (rmore_21 h t a b i hop hta (P.expr a i (hkid 0 a (by rw [hta]; rfl)).2 (by have := (hkid 0 a (by rw [hta]; rfl)).1; simpa [partB, hop, hta] using this) (hq.kid (List.mem_of_getElem? (show t.l[0]? = some a by rw [hta]; rfl)))) (P.expr b i (hkid 1 b (by rw [hta]; rfl)).2 (by have := (hkid 1 b (by rw [hta]; rfl)).1; simpa [partB, hop, hta] using this) (hq.kid (List.mem_of_getElem? (show t.l[1]? = some b by rw [hta]; rfl)))) hq.len)
  · obtain ⟨h1, h2, h3, hkid⟩ := fit_open (by rw [hop]; rfl) hfit
    obtain ⟨a, b, hta⟩ := lenT2 h1 h2
    exact rtext_more h t i (by omega) (rmore_22 h t a b i hop hta (P.expr a i (hkid 0 a (by rw [hta]; rfl)).2 (by have := (hkid 0 a (by rw [hta]; rfl)).1; simpa [partB, hop, hta] using this) (hq.kid (List.mem_of_getElem? (show t.l[0]? = some a by rw [hta]; rfl)))) (P.expr b i (hkid 1 b (by rw [hta]; rfl)).2 (by have := (hkid 1 b (by rw [hta]; rfl)).1; simpa [partB, hop, hta] using this) (hq.kid (List.mem_of_getElem? (show t.l[1]? = some b by rw [hta]; rfl)))) hq.len)
  · obtain ⟨h1, h2, h3, hkid⟩ := fit_open (by rw [hop]; rfl) hfit
    obtain ⟨a, b, g, hta⟩ := lenT3 h1 h2
    exact rtext_more h t i (by omega) (rmore_23 h t a b g i hop hta (P.expr a i (hkid 0 a (by rw [hta]; rfl)).2 (by have := (hkid 0 a (by rw [hta]; rfl)).1; simpa [partB, hop, hta] using this) (hq.kid (List.mem_of_getElem? (show t.l[0]? = some a by rw [hta]; rfl)))) (P.expr b i (hkid 1 b (by rw [hta]; rfl)).2 (by have := (hkid 1 b (by rw [hta]; rfl)).1; simpa [partB, hop, hta] using this) (hq.kid (List.mem_of_getElem? (show t.l[1]? = some b by rw [hta]; rfl)))) (P.expr g i (hkid 2 g (by rw [hta]; rfl)).2 (by have := (hkid 2 g (by rw [hta]; rfl)).1; simpa [partB, hop, hta] using this) (hq.kid (List.mem_of_getElem? (show t.l[2]? = some g by rw [hta]; rfl)))) hq.len)

set_option maxHeartbeats 1000000 in
theorem stmtD_step (h : Nat) (ih : ∀ k, k < h + 1 → AllD k) (t : Tree) (i : ByteArray) (hblk : t.op = 32 → BlockD (h + 1) t i) (hfit : fitsB (h + 1) t = true) (hek : stmtK t.op = true) (hq : Low (h + 1) t i) : StmtD (h + 1) t i := by
  have P := ih h (by omega)
  simp only [stmtK, Bool.and_eq_true, decide_eq_true_eq] at hek
  have hop' : t.op = 30 ∨ t.op = 31 ∨ t.op = 32 ∨ t.op = 33 ∨ t.op = 34 ∨ t.op = 35 ∨ t.op = 36 ∨ t.op = 37 ∨ t.op = 38 ∨ t.op = 39 ∨ t.op = 40 ∨ t.op = 41 := by omega
  rcases hop' with hop | hop | hop | hop | hop | hop | hop | hop | hop | hop | hop | hop
  · obtain ⟨h1, h2, h3, hkid⟩ := fit_open (by rw [hop]; rfl) hfit
    by_cases h0 : t.l = []
    · exact rline_30n h t i hop h0 hq.len
    · obtain ⟨a, hta⟩ := lenT1 (l := t.l) (by have := List.length_pos_iff.2 h0; omega) h2
      exact rline_30 h t a i hop hta (T_ne (hkid 0 a (by rw [hta]; rfl)).2) (P.expr a i (hkid 0 a (by rw [hta]; rfl)).2 (by have := (hkid 0 a (by rw [hta]; rfl)).1; simpa [partB, hop, hta] using this) (hq.kid (List.mem_of_getElem? (show t.l[0]? = some a by rw [hta]; rfl)))) hq.len
  · obtain ⟨h1, h2, h3, hkid⟩ := fit_open (by rw [hop]; rfl) hfit
    obtain ⟨a, hta⟩ := lenT1 h1 h2
    exact rline_31 h t a i hop hta (P.expr a i (hkid 0 a (by rw [hta]; rfl)).2 (by have := (hkid 0 a (by rw [hta]; rfl)).1; simpa [partB, hop, hta] using this) (hq.kid (List.mem_of_getElem? (show t.l[0]? = some a by rw [hta]; rfl)))) hq.len
  · exact rline_32 h t i hop (hblk hop)
  · obtain ⟨h1, h2, h3, hkid⟩ := fit_open (by rw [hop]; rfl) hfit
    by_cases h9 : t.l.length = 2
    · obtain ⟨a, b, hta⟩ := lenT2 (l := t.l) (by omega) (by omega)
      exact rline_33 h t a b i hop hta (P.expr a i (hkid 0 a (by rw [hta]; rfl)).2 (by have := (hkid 0 a (by rw [hta]; rfl)).1; simpa [partB, hop, hta] using this) (hq.kid (List.mem_of_getElem? (show t.l[0]? = some a by rw [hta]; rfl)))) (P.block b i (hkid 1 b (by rw [hta]; rfl)).2 (by have := (hkid 1 b (by rw [hta]; rfl)).1; simpa [partB, hop, hta] using this) (hq.kid (List.mem_of_getElem? (show t.l[1]? = some b by rw [hta]; rfl)))) hq.len
    · obtain ⟨a, b, g, hta⟩ := lenT3 (l := t.l) (by omega) (by omega)
      exact rline_33e h t a b g i hop hta (P.expr a i (hkid 0 a (by rw [hta]; rfl)).2 (by have := (hkid 0 a (by rw [hta]; rfl)).1; simpa [partB, hop, hta] using this) (hq.kid (List.mem_of_getElem? (show t.l[0]? = some a by rw [hta]; rfl)))) (P.block b i (hkid 1 b (by rw [hta]; rfl)).2 (by have := (hkid 1 b (by rw [hta]; rfl)).1; simpa [partB, hop, hta] using this) (hq.kid (List.mem_of_getElem? (show t.l[1]? = some b by rw [hta]; rfl)))) (P.block g i (hkid 2 g (by rw [hta]; rfl)).2 (by have := (hkid 2 g (by rw [hta]; rfl)).1; simpa [partB, hop, hta] using this) (hq.kid (List.mem_of_getElem? (show t.l[2]? = some g by rw [hta]; rfl)))) hq.len
  · obtain ⟨h1, h2, h3, hkid⟩ := fit_open (by rw [hop]; rfl) hfit
    obtain ⟨a, b, hta⟩ := lenT2 h1 h2
    exact rline_34 h t a b i hop hta (P.expr a i (hkid 0 a (by rw [hta]; rfl)).2 (by have := (hkid 0 a (by rw [hta]; rfl)).1; simpa [partB, hop, hta] using this) (hq.kid (List.mem_of_getElem? (show t.l[0]? = some a by rw [hta]; rfl)))) (P.block b i (hkid 1 b (by rw [hta]; rfl)).2 (by have := (hkid 1 b (by rw [hta]; rfl)).1; simpa [partB, hop, hta] using this) (hq.kid (List.mem_of_getElem? (show t.l[1]? = some b by rw [hta]; rfl)))) hq.len
  · obtain ⟨h1, h2, h3, hkid⟩ := fit_open (by rw [hop]; rfl) hfit
    obtain ⟨a, b, hta⟩ := lenT2 h1 h2
    exact rline_35 h t a b i hop hta (P.expr a i (hkid 0 a (by rw [hta]; rfl)).2 (by have := (hkid 0 a (by rw [hta]; rfl)).1; simpa [partB, hop, hta] using this) (hq.kid (List.mem_of_getElem? (show t.l[0]? = some a by rw [hta]; rfl)))) (P.block b i (hkid 1 b (by rw [hta]; rfl)).2 (by have := (hkid 1 b (by rw [hta]; rfl)).1; simpa [partB, hop, hta] using this) (hq.kid (List.mem_of_getElem? (show t.l[1]? = some b by rw [hta]; rfl)))) hq.len
  · obtain ⟨h1, h2, h3, hkid⟩ := fit_open (by rw [hop]; rfl) hfit
    by_cases h0 : t.l = []
    · exact rline_36n h t i hop h0 hq.len
    · obtain ⟨a, hta⟩ := lenT1 (l := t.l) (by have := List.length_pos_iff.2 h0; omega) h2
      exact rline_36 h t a i hop hta (T_ne (hkid 0 a (by rw [hta]; rfl)).2) (P.expr a i (hkid 0 a (by rw [hta]; rfl)).2 (by have := (hkid 0 a (by rw [hta]; rfl)).1; simpa [partB, hop, hta] using this) (hq.kid (List.mem_of_getElem? (show t.l[0]? = some a by rw [hta]; rfl)))) hq.len
  · obtain ⟨h1, h2, h3, hkid⟩ := fit_open (by rw [hop]; rfl) hfit
    obtain ⟨a, hta⟩ := lenT1 h1 h2
    exact rline_37 h t a i hop hta (P.expr a i (hkid 0 a (by rw [hta]; rfl)).2 (by have := (hkid 0 a (by rw [hta]; rfl)).1; simpa [partB, hop, hta] using this) (hq.kid (List.mem_of_getElem? (show t.l[0]? = some a by rw [hta]; rfl)))) hq.len
  · obtain ⟨h1, h2, h3, hkid⟩ := fit_open (by rw [hop]; rfl) hfit
    obtain ⟨a, b, hta⟩ := lenT2 h1 h2
    exact rline_38 h t a b i hop hta (P.block a i (hkid 0 a (by rw [hta]; rfl)).2 (by have := (hkid 0 a (by rw [hta]; rfl)).1; simpa [partB, hop, hta] using this) (hq.kid (List.mem_of_getElem? (show t.l[0]? = some a by rw [hta]; rfl)))) (P.block b i (hkid 1 b (by rw [hta]; rfl)).2 (by have := (hkid 1 b (by rw [hta]; rfl)).1; simpa [partB, hop, hta] using this) (hq.kid (List.mem_of_getElem? (show t.l[1]? = some b by rw [hta]; rfl)))) hq.len
  · obtain ⟨h1, h2, h3, hkid⟩ := fit_open (by rw [hop]; rfl) hfit
    exact rline_39 h t i hop (lenT0 h2) hq.len
  · obtain ⟨h1, h2, h3, hkid⟩ := fit_open (by rw [hop]; rfl) hfit
    exact rline_40 h t i hop (lenT0 h2) hq.len
  · obtain ⟨h1, h2, h3, hkid⟩ := fit_open (by rw [hop]; rfl) hfit
    obtain ⟨ks, b, hta⟩ := lenTL h1
    have hll : t.l.length = ks.length + 1 := by rw [hta]; simp
    have hbu : t.l[ks.length]? = some b := by rw [hta]; simp
    have hbm := List.mem_of_getElem? hbu
    have hbp := hkid _ b hbu
    have hb32 : b.op = 32 := by
      have := hbp.1
      rw [hop, hll] at this
      simpa [partB] using this
    have hN : ks.length ≤ 1000 := by omega
    cases h with
    | zero => have := hbp.2; simp [fitsB] at this
    | succ h =>
    have hks : ∀ u, u ∈ ks → ExprD (h + 1) u i := by
      intro u hu
      obtain ⟨j, hj⟩ := List.getElem?_of_mem hu
      have hjl : j < ks.length := (List.getElem?_eq_some_iff.1 hj).1
      have hju : t.l[j]? = some u := by rw [hta, List.getElem?_append_left hjl]; exact hj
      have hp := hkid j u hju
      refine P.expr u i hp.2 ?_ (hq.kid (List.mem_of_getElem? hju))
      have h9 : u.op = 1 := by
        have := hp.1
        rw [hop, hll] at this
        simp [partB, show ¬ j = ks.length by omega] at this
        exact this
      rw [h9]; decide
    have hbs : ∀ u, u ∈ b.l → StmtD h u (i ++ ⟨#[32, 32]⟩) := by
      obtain ⟨_, _, _, hkid2⟩ := fit_open (t := b) (by rw [hb32]; rfl) hbp.2
      intro u hu
      obtain ⟨j, hj⟩ := List.getElem?_of_mem hu
      have hp := hkid2 j u hj
      exact (ih h (by omega)).stmt u _ hp.2 (by have := hp.1; simpa [partB, hb32] using this) ((hq.kid hbm).in_ hu)
    have hwt := wt_eq t
    have hql := hq.wt
    have hlv := hq.lv
    have hwl : wts t.l = wts ks + wts [b] := by rw [hta, wts_app]
    have hS := low_sum (h := h + 1) (l := ks) (i := i) (by omega) (by omega)
    exact rline_41 h t i hop ks b hta hb32 hks hbs hS (by omega) hN hq.len

theorem allD : ∀ h, AllD h := by
  intro h
  induction h using Nat.strongRecOn with
  | _ h ih =>
    cases h with
    | zero => exact ⟨fun t i hf => by simp [fitsB] at hf, fun t i hf => by simp [fitsB] at hf, fun t i hf => by simp [fitsB] at hf⟩
    | succ h =>
      have P := ih h (by omega)
      have hB : ∀ (t : Tree) (i : ByteArray), fitsB (h + 1) t = true → t.op = 32 → Low (h + 1) t i → BlockD (h + 1) t i := by
        intro t i hfit hop hq
        obtain ⟨_, _, _, hkid⟩ := fit_open (by rw [hop]; rfl) hfit
        refine rblock_calls h t i hop (fun u hu => ?_) hq.len (by have := hq.lv; omega)
        obtain ⟨j, hj⟩ := List.getElem?_of_mem hu
        have hp := hkid j u hj
        exact P.stmt u _ hp.2 (by have := hp.1; simpa [partB, hop] using this) (hq.in_ hu)
      exact ⟨fun t i hf he hq => exprD_step h ih t i hf he hq, fun t i hf he hq => stmtD_step h ih t i (fun hop => hB t i hf hop hq) hf he hq, hB⟩

end Go.Proofs.YtcidccifnaecaaaDoor

namespace Go.Proofs.YtcidccifnaecaaaDoor
open Go.RowKit Go.Sort

theorem right_linesD {t : Tree} (hr : rightB t = true) (hw : t.wt ≤ 68719476736) : ∀ u, u ∈ t.l → StmtD 99 u ⟨#[]⟩ := by
  unfold rightB at hr
  rw [Bool.and_eq_true] at hr
  have hop : t.op = 32 := by simpa using hr.1
  have hq : Low 100 t ⟨#[]⟩ := ⟨hw, by decide⟩
  obtain ⟨_, _, _, hkid⟩ := fit_open (h := 99) (by rw [hop]; rfl) hr.2
  intro u hu
  obtain ⟨j, hj⟩ := List.getElem?_of_mem hu
  have hp := hkid j u hj
  exact (allD 99).stmt u _ hp.2 (by have := hp.1; simpa [partB, hop] using this) (hq.kid hu)
theorem right_exprT {t : Tree} (hr : rightE t = true) (hw : t.wt ≤ 68719476736) : ExprT 100 t ⟨#[]⟩ ∧ ExprD 100 t ⟨#[]⟩ := by
  have hr' : exprK t.op = true ∧ fitsB 100 t = true := by simpa [rightE] using hr
  have hq : Low 100 t ⟨#[]⟩ := ⟨hw, by decide⟩
  exact ⟨(allT 100).expr t _ hr'.2 hr'.1 hq, (allD 100).expr t _ hr'.2 hr'.1 hq⟩

set_option maxRecDepth 100000 in
set_option maxHeartbeats 1000000 in
theorem rshow_calls (t : Tree) (hc : rightB t = true → ∀ u, u ∈ t.l → StmtD 99 u ⟨#[]⟩) (hT : rightB t = true → (linesP t).length ≤ 140737488355328) (d : Nat) (w : World) (sl : Value) (hk : Kids w d t.l sl) (hok : t.ok) (hct : t.count ≤ 1073741824) :
    Calls Tryd.prog 24 #[.agg #[.int .i64 t.op, .string t.s, .int .i64 t.n, sl, .int .i64 t.line]] w fun e w' =>
      e = .returned (if rightB t then .tuple #[.string ⟨(linesP t).toArray⟩, .int .i64 0] else .tuple #[.string ⟨#[]⟩, .int .i64 30]) ∧ Below w.heap.size w w' := by
  obtain ⟨_, A, c, rfl⟩ := hk.form
  obtain ⟨w0, hw0⟩ : ∃ w0, w.alloc (.cells #[.int .i64 t.op, .string t.s, .int .i64 t.n, .slice A t.l.length c, .int .i64 t.line] 24) = w0 := ⟨_, rfl⟩
  have bx : Blk5 w0 w.heap.size t.op t.s t.n (.slice A t.l.length c) t.line := by rw [← hw0]; exact blk5_new _ _ _ _ _ _
  have hb0 : Below w.heap.size w w0 := by rw [← hw0]; exact (Below.refl _ _).alloc (Nat.le_refl _) _
  have HB0 := Lib.hid hb0
  have HX := Lib.hid bx
  have HK := Lib.hid (hk.below hb0)
  have HR := Lib.hid (rright_calls d w0 t _ HK.out hok hct)
  have HC := Lib.hid hc
  have HT := Lib.hid hT
  obtain ⟨c0, c1, c2, c3, c4⟩ := bx
  clear hb0 hk hok hc hT hct
  cases hr : rightB t with
  | false =>
    rw [hr] at HR
    go_enter Tryd.func24, Tryd.ntmps24
    go_wp2_with (go_at_call 20; refine HR.out.mono ?_; rintro e w1 ⟨rfl, hb⟩; have HB1 := Lib.hid hb; clear hb)
    go_ret2
    exact ⟨rfl, HB0.out.trans (HB1.out.mono HB0.out.size)⟩
  | true =>
    have HLN := Lib.hid (fun (w9 : World) (hb9 : Below w0.heap.size w0 w9) => rlines_calls 99 t.l ⟨#[]⟩ (HC.out hr) (HT.out hr) d w9 _ (HK.out.below hb9))
    rw [hr] at HR
    clear hr
    go_enter Tryd.func24, Tryd.ntmps24
    go_wp2_with fail
    refine HR.out.mono ?_
    rintro e w1 ⟨rfl, hb⟩
    have HB1 := Lib.hid hb
    clear hb c0 c1 c2 c3 c4
    obtain ⟨c0, c1, c2, c3, c4⟩ := HX.out.keep HB1.out
    go_wp2_with fail
    refine (HLN.out w1 HB1.out).mono ?_
    rintro e w2 ⟨rfl, hb⟩
    have HB2 := Lib.hid hb
    clear hb
    go_wp2
    go_ret2
    exact ⟨rfl, HB0.out.trans ((HB1.out.trans (HB2.out.mono HB1.out.size)).mono HB0.out.size)⟩

set_option maxRecDepth 100000 in
set_option maxHeartbeats 1000000 in
theorem rshowExpr_calls (t : Tree) (hc : rightE t = true → ExprD 100 t ⟨#[]⟩) (d : Nat) (w : World) (sl : Value) (hk : Kids w d t.l sl) (hok : t.ok) (hct : t.count ≤ 1073741824) :
    Calls Tryd.prog 26 #[.agg #[.int .i64 t.op, .string t.s, .int .i64 t.n, sl, .int .i64 t.line]] w fun e w' =>
      e = .returned (if rightE t then .tuple #[.string ⟨(T 100 t []).toArray⟩, .int .i64 0] else .tuple #[.string ⟨#[]⟩, .int .i64 30]) ∧ Below w.heap.size w w' := by
  obtain ⟨_, A, c, rfl⟩ := hk.form
  obtain ⟨w0, hw0⟩ : ∃ w0, w.alloc (.cells #[.int .i64 t.op, .string t.s, .int .i64 t.n, .slice A t.l.length c, .int .i64 t.line] 24) = w0 := ⟨_, rfl⟩
  have bx : Blk5 w0 w.heap.size t.op t.s t.n (.slice A t.l.length c) t.line := by rw [← hw0]; exact blk5_new _ _ _ _ _ _
  have hb0 : Below w.heap.size w w0 := by rw [← hw0]; exact (Below.refl _ _).alloc (Nat.le_refl _) _
  have HB0 := Lib.hid hb0
  have HX := Lib.hid bx
  have HK := Lib.hid (hk.below hb0)
  have HR := Lib.hid (rrightExpr_calls d w0 t _ HK.out hok hct)
  have HC := Lib.hid hc
  obtain ⟨c0, c1, c2, c3, c4⟩ := bx
  clear hb0 hk hok hc hct
  cases hr : rightE t with
  | false =>
    rw [hr] at HR
    go_enter Tryd.func26, Tryd.ntmps26
    go_wp2_with (go_at_call 22; refine HR.out.mono ?_; rintro e w1 ⟨rfl, hb⟩; have HB1 := Lib.hid hb; clear hb)
    go_ret2
    exact ⟨rfl, HB0.out.trans (HB1.out.mono HB0.out.size)⟩
  | true =>
    have HLN := Lib.hid (fun (w9 : World) (hb9 : Below w0.heap.size w0 w9) => HC.out hr d w9 _ (HK.out.below hb9))
    rw [hr] at HR
    clear hr
    go_enter Tryd.func26, Tryd.ntmps26
    go_wp2_with fail
    refine HR.out.mono ?_
    rintro e w1 ⟨rfl, hb⟩
    have HB1 := Lib.hid hb
    clear hb c0 c1 c2 c3 c4
    obtain ⟨c0, c1, c2, c3, c4⟩ := HX.out.keep HB1.out
    go_wp2_with fail
    refine (HLN.out w1 HB1.out).mono ?_
    rintro e w2 ⟨rfl, hb⟩
    have HB2 := Lib.hid hb
    clear hb
    go_wp2
    go_ret2
    exact ⟨rfl, HB0.out.trans ((HB1.out.trans (HB2.out.mono HB1.out.size)).mono HB0.out.size)⟩

set_option maxRecDepth 100000 in
set_option maxHeartbeats 4000000 in
theorem wshows (w : World) (v : Value) (t : Tree) (hv : TreeArg w v t) (hw0' : t.wt ≤ 34359738368) (hl : Laid w) :
    Calls Tryd.prog 4 #[v] w fun e w' => e = .returned (.bool true) ∧ Below w.heap.size w w' := by
  obtain ⟨d, sl, rfl, hk, hok⟩ := hv
  obtain ⟨hlen0, A, c, rfl⟩ := hk.form
  unfold maxLen at hlen0
  obtain ⟨w0, hw0⟩ : ∃ w0, w.alloc (.cells #[.int .i64 t.op, .string t.s, .int .i64 t.n, .slice A t.l.length c, .int .i64 t.line] 24) = w0 := ⟨_, rfl⟩
  have bx : Blk5 w0 w.heap.size t.op t.s t.n (.slice A t.l.length c) t.line := by rw [← hw0]; exact blk5_new _ _ _ _ _ _
  have hb0 : Below w.heap.size w w0 := by rw [← hw0]; exact (Below.refl _ _).alloc (Nat.le_refl _) _
  have HB0 := Lib.hid hb0
  have HX := Lib.hid bx
  have HL := Lib.hid (hl.below hb0)
  have HK := Lib.hid (hk.below hb0)
  have HOK := Lib.hid hok
  have hw1 : t.wt ≤ 68719476736 := by omega
  have HW := Lib.hid hw1
  clear hb0 hl hk hok bx hw0' hw1
  go_enter Tryd.func4, Tryd.ntmps4
  go_wp2_with fail
  refine (shown_calls w0 HL.out).mono ?_
  rintro e w1 ⟨rfl, hb1⟩
  have HB1 := Lib.hid hb1
  obtain ⟨c0, c1, c2, c3, c4⟩ := HX.out.keep hb1
  clear hb1
  go_wp2_with fail
  refine (small_calls d w1 t _ (HK.out.below HB1.out)).mono ?_
  rintro e w2 ⟨rfl, hb2⟩
  have HB2 := Lib.hid (HB1.out.trans (hb2.mono HB1.out.size))
  clear hb2 c0 c1 c2 c3 c4
  obtain ⟨c0, c1, c2, c3, c4⟩ := HX.out.keep HB2.out
  by_cases hs : t.small
  · have hct : t.count ≤ 1073741824 := Nat.le_trans hs.count (by decide)
    rw [if_pos hs]
    clear hs
    have H1 := Lib.hid (fun w9 (hb9 : Below w0.heap.size w0 w9) => (show_calls t (fun hr u hu => ((right_lines hr HW.out).2.1 u hu).1) (fun hr => (right_lines hr HW.out).2.2) d w9 _ (HL.out.below hb9) (HK.out.below hb9) HOK.out).mono fun e w' (hq : _ ∧ _) => (⟨hq.1, hb9.trans (hq.2.mono hb9.size)⟩ : e = _ ∧ Below w0.heap.size w0 w'))
    have H2 := Lib.hid (fun w9 (hb9 : Below w0.heap.size w0 w9) => (rshow_calls t (fun hr => right_linesD hr HW.out) (fun hr => (right_lines hr HW.out).2.2) d w9 _ (HK.out.below hb9) HOK.out hct).mono fun e w' (hq : _ ∧ _) => (⟨hq.1, hb9.trans (hq.2.mono hb9.size)⟩ : e = _ ∧ Below w0.heap.size w0 w'))
    have H3 := Lib.hid (fun w9 (hb9 : Below w0.heap.size w0 w9) => (showExpr_calls t (fun hr => (right_exprT hr HW.out).1) d w9 _ (HL.out.below hb9) (HK.out.below hb9) HOK.out).mono fun e w' (hq : _ ∧ _) => (⟨hq.1, hb9.trans (hq.2.mono hb9.size)⟩ : e = _ ∧ Below w0.heap.size w0 w'))
    have H4 := Lib.hid (fun w9 (hb9 : Below w0.heap.size w0 w9) => (rshowExpr_calls t (fun hr => (right_exprT hr HW.out).2) d w9 _ (HK.out.below hb9) HOK.out hct).mono fun e w' (hq : _ ∧ _) => (⟨hq.1, hb9.trans (hq.2.mono hb9.size)⟩ : e = _ ∧ Below w0.heap.size w0 w'))
    have tup : ∀ (b : Bool) (s : ByteArray), ∃ (z : ByteArray) (k : Int), (if b then Value.tuple #[.string s, .int .i64 0] else .tuple #[.string ⟨#[]⟩, .int .i64 30]) = .tuple #[.string z, .int .i64 k] := fun b s => by
      cases b
      · exact ⟨_, _, rfl⟩
      · exact ⟨_, _, rfl⟩
    obtain ⟨z1, k1, e1⟩ := tup (rightB t) ⟨(linesP t).toArray⟩
    obtain ⟨z2, k2, e2⟩ := tup (rightE t) ⟨(T 100 t []).toArray⟩
    rw [e1] at H1 H2
    rw [e2] at H3 H4
    have q1 : (z1.toList == z1.toList) = true := by simp
    have q2 : (z2.toList == z2.toList) = true := by simp
    have q3 : (k1 == k1) = true := by simp
    have q4 : (k2 == k2) = true := by simp
    clear e1 e2 tup hct
    go_wp2_with fail
    refine (H1.out w2 HB2.out).mono ?_
    rintro e w3 ⟨rfl, hb3⟩
    have HB3 := Lib.hid hb3
    clear hb3 c0 c1 c2 c3 c4
    obtain ⟨c0, c1, c2, c3, c4⟩ := HX.out.keep HB3.out
    go_wp2_with fail
    refine (H2.out w3 HB3.out).mono ?_
    rintro e w4 ⟨rfl, hb4⟩
    have HB4 := Lib.hid hb4
    clear hb4 c0 c1 c2 c3 c4
    obtain ⟨c0, c1, c2, c3, c4⟩ := HX.out.keep HB4.out
    go_wp2_with fail
    refine (H3.out w4 HB4.out).mono ?_
    rintro e w5 ⟨rfl, hb5⟩
    have HB5 := Lib.hid hb5
    clear hb5 c0 c1 c2 c3 c4
    obtain ⟨c0, c1, c2, c3, c4⟩ := HX.out.keep HB5.out
    go_wp2_with fail
    refine (H4.out w5 HB5.out).mono ?_
    rintro e w6 ⟨rfl, hb6⟩
    have HB6 := Lib.hid hb6
    clear hb6 c0 c1 c2 c3 c4
    go_wp2
    go_ret
    exact ⟨rfl, HB0.out.trans (HB6.out.mono HB0.out.size)⟩
  · rw [if_neg hs]
    go_wp2
    go_ret
    exact ⟨rfl, HB0.out.trans (HB2.out.mono HB0.out.size)⟩

end Go.Proofs.YtcidccifnaecaaaDoor

