/- Laws of tokens: plain words, no program in sight. -/
import Derived.Test.YtcidccifnaecaaaDoorLexS
namespace Go.Proofs.YtcidccifnaecaaaDoor
open Go.RowKit

/-! ### beginnings -/
theorem tw_le (p : UInt8 → Bool) : ∀ l : List UInt8, (l.takeWhile p).length ≤ l.length
  | [] => Nat.le_refl _
  | c :: l => by
    have := tw_le p l
    simp only [List.takeWhile]
    split
    · simp only [List.length_cons]; omega
    · simp
theorem tw_take (p : UInt8 → Bool) : ∀ l : List UInt8, l.take (l.takeWhile p).length = l.takeWhile p
  | [] => rfl
  | c :: l => by
    have := tw_take p l
    simp only [List.takeWhile]
    split
    · simp only [List.length_cons, List.take_succ_cons, this]
    · simp
theorem tw_mem {p : UInt8 → Bool} {b : UInt8} : ∀ {l : List UInt8}, b ∈ l.takeWhile p → p b = true
  | [], h => by simp at h
  | c :: l, h => by
    simp only [List.takeWhile] at h
    split at h
    · rename_i hc
      rcases List.mem_cons.1 h with rfl | h
      · exact hc
      · exact tw_mem h
    · simp at h
theorem tw_pos {p : UInt8 → Bool} {c : UInt8} {l : List UInt8} (h : p c = true) : 0 < ((c :: l).takeWhile p).length := by
  simp [List.takeWhile, h]
theorem tw_stop {p : UInt8 → Bool} (h : p 10 = false) (r : List UInt8) : ∀ l : List UInt8, (l ++ 10 :: r).takeWhile p = l.takeWhile p
  | [] => by simp [List.takeWhile, h]
  | c :: l => by
    have := tw_stop h r l
    simp only [List.takeWhile, List.cons_append]
    split
    · rw [this]
    · rfl
theorem pre_stop (r : List UInt8) : ∀ (x l : List UInt8), (∀ b ∈ x, b ≠ 10) → x.isPrefixOf (l ++ 10 :: r) = x.isPrefixOf l
  | [], l, _ => by simp [List.isPrefixOf]
  | b :: x, [], h => by
    have : b ≠ 10 := h b (List.mem_cons_self ..)
    simp [List.isPrefixOf, this]
  | b :: x, c :: l, h => by
    have := pre_stop r x l (fun b hb => h b (List.mem_cons_of_mem _ hb))
    simp only [List.cons_append, List.isPrefixOf, this]
theorem pre_take : ∀ {x l : List UInt8}, x.isPrefixOf l = true → l.take x.length = x ∧ x.length ≤ l.length
  | [], l, _ => by simp
  | b :: x, [], h => by simp [List.isPrefixOf] at h
  | b :: x, c :: l, h => by
    simp only [List.isPrefixOf, Bool.and_eq_true, beq_iff_eq] at h
    obtain ⟨h1, h2⟩ := h
    have := pre_take h2
    subst h1
    simp [this.1]
    omega
theorem take_app {l r : List UInt8} {n : Nat} (h : n ≤ l.length) : (l ++ r).take n = l.take n := List.take_append_of_le_length h
theorem drop_app {l r : List UInt8} {n : Nat} (h : n ≤ l.length) : (l ++ r).drop n = l.drop n ++ r := List.drop_append_of_le_length h

/-! ### quoted texts -/
theorem escaped_le {r : List UInt8} {x : UInt8} {k : Nat} (h : escapedF r = some (x, k)) : 0 < k ∧ k ≤ r.length ∧ ∀ b ∈ r.take k, b ≠ 10 := by
  cases r with
  | nil => simp [escapedF] at h
  | cons c r =>
    simp only [escapedF] at h
    split at h
    · rename_i h1
      injection h with h
      injection h with h2 h3
      subst h3
      simp [h1]
    · split at h
      · rename_i h1
        injection h with h
        injection h with h2 h3
        subst h3
        simp [h1]
      · split at h
        · rename_i h1
          injection h with h
          injection h with h2 h3
          subst h3
          rcases h1 with h1 | h1 | h1 <;> simp [h1]
        · split at h
          · rename_i h1
            subst h1
            match r, h with
            | [], h => simp at h
            | [a], h => simp at h
            | a :: b :: r, h =>
              simp only at h
              split at h
              · rename_i h2
                injection h with h
                injection h with h4 h3
                subst h3
                have ha : a ≠ 10 := by rintro rfl; simp [hexB] at h2
                have hb : b ≠ 10 := by rintro rfl; simp [hexB] at h2
                simp [ha, hb]
              · cases h
          · cases h
theorem escaped_stop (r : List UInt8) : ∀ l : List UInt8, escapedF (l ++ 10 :: r) = escapedF l
  | [] => by simp [escapedF]
  | [c] => by
    simp only [List.cons_append, List.nil_append, escapedF]
    cases r with
    | nil => rfl
    | cons a r => simp [hexB]
  | [c, a] => by
    simp only [List.cons_append, List.nil_append, escapedF]
    simp [hexB]
  | c :: a :: b :: l => by simp only [List.cons_append, escapedF]
theorem quoted_le {q : UInt8} (hq : q ≠ 10) : ∀ {f : Nat} {l a : List UInt8} {k : Nat}, quotedF q f l = some (a, k) → 0 < k ∧ k ≤ l.length ∧ ∀ b ∈ l.take k, b ≠ 10
  | 0, l, a, k, h => by simp [quotedF] at h
  | f + 1, [], a, k, h => by simp [quotedF] at h
  | f + 1, c :: r, a, k, h => by
    simp only [quotedF] at h
    split at h
    · rename_i h1
      injection h with h
      injection h with h2 h3
      subst h3
      simp [h1, hq]
    · split at h
      · rename_i h1
        cases he : escapedF r with
        | none => rw [he] at h; cases h
        | some p =>
          obtain ⟨x, e⟩ := p
          rw [he] at h
          simp only at h
          cases hn : quotedF q f (r.drop e) with
          | none => rw [hn] at h; cases h
          | some p =>
            obtain ⟨y, k'⟩ := p
            rw [hn] at h
            simp only [Option.map_some, Option.some.injEq, Prod.mk.injEq] at h
            obtain ⟨_, rfl⟩ := h
            obtain ⟨g1, g2, g3⟩ := quoted_le hq hn
            obtain ⟨e1, e2, e3⟩ := escaped_le he
            rw [List.length_drop] at g2
            refine ⟨by omega, by simp only [List.length_cons]; omega, ?_⟩
            intro b hb
            rw [show k' + 1 + e = (e + k') + 1 by omega, List.take_succ_cons, List.take_add] at hb
            rcases List.mem_cons.1 hb with rfl | hb
            · rw [h1]; decide
            · rcases List.mem_append.1 hb with hb | hb
              · exact e3 b hb
              · exact g3 b hb
      · split at h
        · cases h
        · rename_i h1
          cases hn : quotedF q f r with
          | none => rw [hn] at h; cases h
          | some p =>
            obtain ⟨y, k'⟩ := p
            rw [hn] at h
            simp only [Option.map_some, Option.some.injEq, Prod.mk.injEq] at h
            obtain ⟨_, rfl⟩ := h
            obtain ⟨g1, g2, g3⟩ := quoted_le hq hn
            refine ⟨by omega, by simp only [List.length_cons]; omega, ?_⟩
            intro b hb
            rw [List.take_succ_cons] at hb
            rcases List.mem_cons.1 hb with rfl | hb
            · rintro rfl
              exact h1 (.inl (by decide))
            · exact g3 b hb
theorem quoted_stop {q : UInt8} (hq : q ≠ 10) (r : List UInt8) : ∀ {f g : Nat} {l : List UInt8}, l.length ≤ g → l.length < f → quotedF q f (l ++ 10 :: r) = quotedF q g l
  | 0, _, _, _, h => by omega
  | f + 1, 0, [], _, _ => by simp [quotedF, Ne.symm hq]
  | f + 1, g + 1, [], _, _ => by simp [quotedF, Ne.symm hq]
  | f + 1, 0, c :: l, h, _ => by simp at h
  | f + 1, g + 1, c :: l, h, h' => by
    simp only [List.length_cons] at h h'
    simp only [List.cons_append, quotedF, escaped_stop]
    split
    · rfl
    · split
      · cases he : escapedF l with
        | none => rfl
        | some p =>
          obtain ⟨x, e⟩ := p
          obtain ⟨e1, e2, _⟩ := escaped_le he
          simp only
          rw [drop_app e2, quoted_stop hq r (f := f) (g := g) (l := l.drop e) (by rw [List.length_drop]; omega) (by rw [List.length_drop]; omega)]
      · split
        · rfl
        · rw [quoted_stop hq r (f := f) (g := g) (l := l) (by omega) (by omega)]

/-! ### one token -/
theorem begins_of : ∀ {l : List (List UInt8)} {s : List UInt8}, beginsF s l ≠ 0 → ∃ x ∈ l, x.isPrefixOf s = true ∧ beginsF s l = x.length
  | [], s, h => by simp [beginsF] at h
  | x :: l, s, h => by
    simp only [beginsF] at h ⊢
    split
    · rename_i hx
      exact ⟨x, List.mem_cons_self .., hx, rfl⟩
    · rename_i hx
      rw [if_neg hx] at h
      obtain ⟨y, h1, h2, h3⟩ := begins_of h
      exact ⟨y, List.mem_cons_of_mem _ h1, h2, h3⟩
theorem begins_stop (r : List UInt8) (s : List UInt8) : ∀ {l : List (List UInt8)}, (∀ x ∈ l, ∀ b ∈ x, b ≠ 10) → beginsF (s ++ 10 :: r) l = beginsF s l
  | [], _ => rfl
  | x :: l, h => by
    simp only [beginsF]
    rw [pre_stop r x s (h x (List.mem_cons_self ..)), begins_stop r s (fun y hy => h y (List.mem_cons_of_mem _ hy))]
theorem signs5_no : ∀ x ∈ signs5, ∀ b ∈ x, b ≠ 10 := by decide
theorem part_no {b : UInt8} (h : partB8 b = true) : b ≠ 10 := by rintro rfl; revert h; decide
theorem digit_no {b : UInt8} (h : digitB8 b = true) : b ≠ 10 := by rintro rfl; revert h; decide
theorem letter_part {b : UInt8} (h : letterB b = true) : partB8 b = true := by simp only [letterB] at h; simp [partB8, h]

theorem number_ok {c : UInt8} {s : List UInt8} (hd : digitB8 c = true) (h : (numberF (c :: s)).2.2 = 0) :
    0 < (numberF (c :: s)).2.1 ∧ (numberF (c :: s)).2.1 ≤ (c :: s).length ∧ ∀ b ∈ (c :: s).take (numberF (c :: s)).2.1, b ≠ 10 := by
  simp only [numberF] at h ⊢
  split at h
  · simp at h
  · split at h
    · simp at h
    · rename_i h1 h2
      rw [if_neg h1, if_neg h2]
      refine ⟨tw_pos hd, tw_le _ _, fun b hb => ?_⟩
      rw [tw_take] at hb
      exact digit_no (tw_mem hb)
theorem token_ok {s : List UInt8} (h : (tokenF s).2.2 = 0) : 0 < (tokenF s).2.1 ∧ (tokenF s).2.1 ≤ s.length ∧ ∀ b ∈ s.take (tokenF s).2.1, b ≠ 10 := by
  cases s with
  | nil => simp [tokenF] at h
  | cons c r =>
    by_cases h1 : letterB c
    · simp only [tokenF, h1, if_true]
      refine ⟨tw_pos (letter_part h1), tw_le _ _, fun b hb => ?_⟩
      unfold namesB at hb
      rw [tw_take] at hb
      exact part_no (tw_mem hb)
    · by_cases h2 : digitB8 c
      · simp only [tokenF, h1, h2, if_true, Bool.false_eq_true, if_false] at h ⊢
        exact number_ok h2 h
      · by_cases h3 : c = 34 ∨ c = 39
        · have hc : c ≠ 10 := by rcases h3 with rfl | rfl <;> decide
          simp only [tokenF, h1, h2, h3, if_true, Bool.false_eq_true, if_false] at h ⊢
          cases hq : quotedF c r.length r with
          | none => rw [hq] at h; simp at h
          | some p =>
            obtain ⟨a, k⟩ := p
            obtain ⟨g1, g2, g3⟩ := quoted_le hc hq
            simp only
            refine ⟨by omega, by simp only [List.length_cons]; omega, fun b hb => ?_⟩
            rw [List.take_succ_cons] at hb
            rcases List.mem_cons.1 hb with rfl | hb
            · exact hc
            · exact g3 b hb
        · by_cases h4 : beginsF (c :: r) signs5 = 0
          · by_cases h5 : signs1.contains c
            · simp only [tokenF, h1, h2, h3, h4, h5, if_true, Bool.false_eq_true, if_false]
              refine ⟨by decide, by simp, fun b hb => ?_⟩
              simp only [List.take_succ_cons, List.take_zero, List.mem_singleton] at hb
              subst hb
              rintro rfl
              revert h5
              decide
            · simp only [tokenF, h1, h2, h3, h4, h5, if_true, Bool.false_eq_true, if_false] at h
              exact absurd h (by decide)
          · have e : tokenF (c :: r) = (⟨5, (c :: r).take (beginsF (c :: r) signs5), 0⟩, beginsF (c :: r) signs5, 0) := by
              simp only [tokenF, h1, h2, h3, h4, Bool.false_eq_true, if_false]
            obtain ⟨x, hx, hp, he⟩ := begins_of h4
            have ht := pre_take hp
            rw [e]
            simp only
            rw [he] at h4 ⊢
            rw [ht.1]
            exact ⟨by omega, ht.2, signs5_no x hx⟩
theorem number_stop (r : List UInt8) (s : List UInt8) : numberF (s ++ 10 :: r) = numberF s := by
  have e1 := tw_stop (p := digitB8) (by decide) r s
  have e2 := tw_stop (p := partB8) (by decide) r s
  have h1 := tw_le digitB8 s
  simp only [numberF, namesB, e1, e2]
  rw [drop_app h1, take_app h1, pre_stop r [46] _ (by decide)]
  cases s with
  | nil => simp
  | cons c s => simp
theorem token_stop (r : List UInt8) {s : List UInt8} (hs : s ≠ []) : tokenF (s ++ 10 :: r) = tokenF s := by
  cases s with
  | nil => exact absurd rfl hs
  | cons c s =>
    have e2 := tw_stop (p := partB8) (by decide) r (c :: s)
    have h2 := tw_le partB8 (c :: s)
    have e3 := number_stop r (c :: s)
    have e4 := begins_stop r (c :: s) signs5_no
    have h4 : beginsF (c :: s) signs5 ≤ (c :: s).length := by
      by_cases h : beginsF (c :: s) signs5 = 0
      · omega
      · obtain ⟨x, _, hp, he⟩ := begins_of h
        rw [he]
        exact (pre_take hp).2
    have e5 : (c :: s ++ 10 :: r).take 1 = (c :: s).take 1 := by simp
    have e6 := take_app (r := 10 :: r) h2
    have e7 := take_app (r := 10 :: r) h4
    have e8 : namesB (c :: s ++ 10 :: r) = namesB (c :: s) := by unfold namesB; rw [e2]
    simp only [List.cons_append] at e3 e4 e5 e6 e7 e8 ⊢
    simp only [tokenF, e3, e4, e5, e7, e8]
    unfold namesB
    rw [e6]
    by_cases h3 : c = 34 ∨ c = 39
    · have hc : c ≠ 10 := by rcases h3 with rfl | rfl <;> decide
      rw [quoted_stop hc r (g := s.length) (l := s) (Nat.le_refl _) (by simp only [List.length_append, List.length_cons]; omega)]
    · simp only [h3, if_false]

/-! ### blanks -/
theorem indexByte_stop (r : List UInt8) : ∀ l : List UInt8, Lib.indexByte (l ++ 10 :: r) 10 = if Lib.indexByte l 10 < 0 then (l.length : Int) else Lib.indexByte l 10
  | [] => by simp [Lib.indexByte]
  | c :: l => by
    have h := indexByte_stop r l
    have h0 := Lib.indexByte_ge l 10
    simp only [List.cons_append, Lib.indexByte]
    by_cases hc : (c == 10) = true
    · simp [hc]
    · simp only [hc, h]
      by_cases h1 : Lib.indexByte l 10 < 0
      · have h2 : Lib.indexByte l 10 = -1 := by omega
        have h3 : ((l.length : Int) == -1) = false := by simp
        simp [h2, h3]
      · have h2 : (Lib.indexByte l 10 == -1) = false := by simp; omega
        have h3 : ¬ (Lib.indexByte l 10 + 1 < 0) := by omega
        simp [h1, h2, h3]
theorem index_stop (sub r : List UInt8) (hsub : sub ≠ []) (hno : ∀ b ∈ sub, b ≠ 10) : ∀ l : List UInt8, 0 ≤ Lib.index l sub → Lib.index (l ++ 10 :: r) sub = Lib.index l sub
  | [], h => by
    cases sub with
    | nil => exact absurd rfl hsub
    | cons b sub => simp [Lib.index] at h
  | c :: l, h => by
    have ih := index_stop sub r hsub hno l
    have h0 := Lib.index_ge l sub
    have hp := pre_stop r sub (c :: l) hno
    simp only [List.cons_append] at hp
    simp only [List.cons_append, Lib.index, hp] at h ⊢
    by_cases h1 : sub.isPrefixOf (c :: l) = true
    · simp [h1]
    · simp only [h1] at h ⊢
      by_cases h2 : (Lib.index l sub == -1) = true
      · simp [h2] at h
      · have h3 : 0 ≤ Lib.index l sub := by simp at h2; omega
        rw [ih h3]
theorem blank_stop (r : List UInt8) {s : List UInt8} (hs : s ≠ []) (hb : blankN s ≠ none) : blankN (s ++ 10 :: r) = blankN s := by
  cases s with
  | nil => exact absurd rfl hs
  | cons c s =>
    have e1 := pre_stop r [47, 47] (c :: s) (by decide)
    have e2 := pre_stop r [47, 42] (c :: s) (by decide)
    have e3 := indexByte_stop r (c :: s)
    have h0 := Lib.indexByte_ge (c :: s) 10
    simp only [List.cons_append] at e1 e2 e3 ⊢
    simp only [blankN, e1, e2] at hb ⊢
    split
    · rfl
    · split
      · rw [e3]
        by_cases h1 : Lib.indexByte (c :: s) 10 < 0
        · have h2 : ¬ (((c :: s).length : Int) < 0) := by omega
          simp only [h1, if_true, if_neg h2, Int.toNat_natCast]
        · simp only [h1, if_false]
      · split
        · rename_i h1 h2 h3
          rw [if_neg h1, if_neg h2, if_pos h3] at hb
          by_cases h4 : Lib.index (s.drop 1) [42, 47] < 0
          · rw [if_pos h4] at hb
            exact absurd rfl hb
          · have h5 : (s ++ 10 :: r).drop 1 = s.drop 1 ++ 10 :: r := by
              cases s with
              | nil => simp at h3
              | cons d s => simp
            rw [h5, index_stop [42, 47] r (by simp) (by decide) _ (by omega)]
        · rfl

end Go.Proofs.YtcidccifnaecaaaDoor
