/- Unlike trees have unlike texts, first part: trees without lines, texts without levels, runs of letters and digits, quoted texts, numbers, lists. Plain words, no program in sight. -/
import Derived.Test.YtcidccifnaecaaaDoorTxAll
namespace Go.Proofs.YtcidccifnaecaaaDoor
open Go.RowKit

/-! ### trees without lines -/
mutual
def Tree.strip : Tree → Tree
  | .node o s n l _ => .node o s n (strips l) 0
def strips : List Tree → List Tree
  | [] => []
  | t :: ts => t.strip :: strips ts
end
theorem strips_map : ∀ l : List Tree, strips l = l.map Tree.strip
  | [] => rfl
  | t :: ts => by rw [strips, strips_map ts]; rfl
theorem strip_node (o : Int) (s : ByteArray) (n : Int) (l : List Tree) (ln : Int) : (Tree.node o s n l ln).strip = .node o s n (l.map Tree.strip) 0 := by rw [Tree.strip, strips_map]
mutual
theorem same_iff : ∀ t u : Tree, t.same u = true ↔ t.strip = u.strip
  | .node o s n l _, .node o' s' n' l' _ => by
    have := sames_iff l l'
    simp only [Tree.same, Tree.strip, Bool.and_eq_true, decide_eq_true_eq, this, Tree.node.injEq, and_true, and_assoc]
theorem sames_iff : ∀ l m : List Tree, sames l m = true ↔ strips l = strips m
  | [], [] => by simp [sames, strips]
  | [], _ :: _ => by simp [sames, strips]
  | _ :: _, [] => by simp [sames, strips]
  | t :: ts, u :: us => by
    have h1 := same_iff t u
    have h2 := sames_iff ts us
    simp only [sames, strips, Bool.and_eq_true, h1, h2, List.cons.injEq]
end

/-! ### texts without levels -/
theorem step_congr {R R' : Tree → List UInt8 → List UInt8} {t : Tree} {i : List UInt8} (h : ∀ u, u ∈ t.l → ∀ j, R u j = R' u j) : stepT R t i = stepT R' t i := by
  have e1 : (t.l.map fun u => R u i) = t.l.map fun u => R' u i := List.map_congr_left fun u hu => h u hu i
  have e2 : ∀ j, linesL R t.l j = linesL R' t.l j := by
    intro j
    have : ∀ l : List Tree, (∀ u, u ∈ l → ∀ j, R u j = R' u j) → linesL R l j = linesL R' l j := by
      intro l
      induction l with
      | nil => intro _; rfl
      | cons u us ih =>
        intro hl
        have e3 : ∀ Q : Tree → List UInt8 → List UInt8, linesL Q (u :: us) j = j ++ Q u j ++ [10] ++ linesL Q us j := fun Q => by simp [linesL]
        rw [e3, e3, ih (fun v hv => hl v (by simp [hv])), hl u (by simp)]
    exact this t.l h
  unfold stepT
  simp only [e1, e2]
theorem fit_kids {h : Nat} {t u : Tree} (hfit : fitsB (h + 1) t = true) (hu : u ∈ t.l) : fitsB h u = true := by
  cases hf : formF t.op with
  | none => simp [fitsB, fitStep, hf] at hfit
  | some x =>
    obtain ⟨f, lo, hi⟩ := x
    obtain ⟨j, hj⟩ := List.getElem?_of_mem hu
    exact ((fit_open hf hfit).2.2.2 j u hj).2
theorem fit_test {h : Nat} {t : Tree} (hfit : fitsB (h + 1) t = true) : testB t.op t.s.data.toList = true := by
  cases hf : formF t.op with
  | none => simp [fitsB, fitStep, hf] at hfit
  | some x =>
    obtain ⟨f, lo, hi⟩ := x
    have h1 : fitStep (fitsB h) t = true := hfit
    unfold fitStep at h1
    rw [hf] at h1
    simp only [Bool.and_eq_true] at h1
    exact h1.1.1.1.1
theorem T_lift : ∀ (h : Nat) (t : Tree) (i : List UInt8) (k : Nat), fitsB h t = true → h ≤ k → T k t i = T h t i
  | 0, t, _, _, hf, _ => by simp [fitsB] at hf
  | h + 1, t, i, 0, _, hk => by omega
  | h + 1, t, i, k + 1, hf, hk => step_congr fun u hu j => T_lift h u j k (fit_kids hf hu) (by omega)
def tx (t : Tree) (i : List UInt8) : List UInt8 := T 100 t i
theorem tx_eq {h : Nat} {t : Tree} {i : List UInt8} (hf : fitsB (h + 1) t = true) (hh : h + 1 ≤ 100) : tx t i = stepT tx t i := by
  have e : T 100 t i = T (h + 1) t i := T_lift (h + 1) t i 100 hf hh
  unfold tx
  rw [e]
  exact step_congr fun u hu j => (T_lift h u j 100 (fit_kids hf hu) (by omega)).symm
theorem T_strip : ∀ (h : Nat) (t : Tree) (i : List UInt8), T h t.strip i = T h t i
  | 0, _, _ => rfl
  | h + 1, .node o s n l ln, i => by
    have e1 : ((l.map Tree.strip).map fun u => T h u i) = l.map fun u => T h u i := by
      rw [List.map_map]
      exact List.map_congr_left fun u _ => T_strip h u i
    have e2 : ∀ j, linesL (T h) (l.map Tree.strip) j = linesL (T h) l j := by
      intro j
      unfold linesL
      rw [List.flatMap_map]
      congr 1
      funext u
      rw [T_strip h u j]
    have e3 : (l.map Tree.strip).map Tree.op = l.map Tree.op := by
      rw [List.map_map]
      exact List.map_congr_left fun u _ => by cases u; rfl
    rw [strip_node]
    show stepT (T h) _ i = stepT (T h) _ i
    unfold stepT
    simp only [Tree.op, Tree.s, Tree.n, Tree.l, e1, e2, e3]
    rfl
theorem T_of_strip {h : Nat} {t u : Tree} {i : List UInt8} (e : t.strip = u.strip) : T h t i = T h u i := by rw [← T_strip, e, T_strip]

/-! ### runs of letters and digits -/
def np : List UInt8 → Prop
  | [] => True
  | c :: _ => partB8 c = false
def st : List UInt8 → Prop
  | [] => True
  | c :: _ => partB8 c = false ∧ c ≠ 46 ∧ c ≠ 91 ∧ c ≠ 40
theorem st.np : ∀ {x : List UInt8}, st x → np x
  | [], _ => trivial
  | _ :: _, h => h.1
theorem run_inj : ∀ {w v x y : List UInt8}, w.all partB8 = true → v.all partB8 = true → np x → np y → w ++ x = v ++ y → w = v ∧ x = y
  | [], [], _, _, _, _, _, _, e => ⟨rfl, e⟩
  | [], d :: v, x, y, _, hv, hx, _, e => by
    rw [List.nil_append] at e
    subst e
    rw [List.all_cons, Bool.and_eq_true] at hv
    have : partB8 d = false := hx
    rw [this] at hv
    cases hv.1
  | c :: w, [], x, y, hw, _, _, hy, e => by
    rw [List.nil_append] at e
    subst e
    rw [List.all_cons, Bool.and_eq_true] at hw
    have : partB8 c = false := hy
    rw [this] at hw
    cases hw.1
  | c :: w, d :: v, x, y, hw, hv, hx, hy, e => by
    rw [List.all_cons, Bool.and_eq_true] at hw hv
    rw [List.cons_append, List.cons_append] at e
    injection e with e1 e2
    obtain ⟨h1, h2⟩ := run_inj hw.2 hv.2 hx hy e2
    exact ⟨by rw [e1, h1], h2⟩
theorem run_of : ∀ {w x : List UInt8}, w.all partB8 = true → np x → (w ++ x).takeWhile partB8 = w
  | [], [], _, _ => rfl
  | [], c :: x, _, h => by
    have : partB8 c = false := h
    simp [this]
  | c :: w, x, hw, hx => by
    rw [List.all_cons, Bool.and_eq_true] at hw
    rw [List.cons_append, List.takeWhile_cons, if_pos hw.1, run_of hw.2 hx]
theorem run_np : ∀ {c : UInt8} {x : List UInt8}, partB8 c = false → (c :: x).takeWhile partB8 = [] := by
  intro c x h
  simp [h]
theorem bytes_inj {a b : ByteArray} (h : a.data.toList = b.data.toList) : a = b := by
  cases a; cases b
  simp at h
  subst h
  rfl
theorem name_part {s : List UInt8} (h : nameB s = true) : s.all partB8 = true ∧ wordB s = false ∧ ∃ c r, s = c :: r ∧ letterB c = true := by
  cases s with
  | nil => simp [nameB] at h
  | cons c r =>
    simp only [nameB, Bool.and_eq_true, Bool.not_eq_true'] at h
    exact ⟨h.1.2, h.2, c, r, rfl, h.1.1⟩

/-! ### numbers -/
theorem dec_stepA (u : Nat) : Lib.decDigits u = if u < 10 then [UInt8.ofNat (48 + u)] else Lib.decDigits (u / 10) ++ [UInt8.ofNat (48 + u % 10)] := by
  rw [Lib.decDigits]
  split <;> rfl
theorem dig_nat {r : Nat} (h : r < 10) : (UInt8.ofNat (48 + r)).toNat = 48 + r := by
  simp
  omega
theorem dec_digits : ∀ u : Nat, (∀ c, c ∈ Lib.decDigits u → digitI c.toNat = true) ∧ Lib.decDigits u ≠ [] := by
  intro u
  induction u using Nat.strongRecOn with
  | _ u ih =>
    rw [dec_stepA]
    split
    · refine ⟨fun c hc => ?_, by simp⟩
      obtain rfl : c = UInt8.ofNat (48 + u) := by simpa using hc
      rw [dig_nat (by omega)]
      simp [digitI]
      omega
    · refine ⟨fun c hc => ?_, by simp⟩
      rcases List.mem_append.1 hc with hc | hc
      · exact (ih (u / 10) (by omega)).1 c hc
      · obtain rfl : c = UInt8.ofNat (48 + u % 10) := by simpa using hc
        rw [dig_nat (by omega)]
        simp [digitI]
        omega
theorem dec_inj : ∀ u v : Nat, Lib.decDigits u = Lib.decDigits v → u = v := by
  intro u
  induction u using Nat.strongRecOn with
  | _ u ih =>
    intro v e
    rw [dec_stepA u, dec_stepA v] at e
    by_cases h1 : u < 10 <;> by_cases h2 : v < 10
    · rw [if_pos h1, if_pos h2] at e
      injection e with e _
      have := congrArg UInt8.toNat e
      rw [dig_nat h1, dig_nat h2] at this
      omega
    · rw [if_pos h1, if_neg h2] at e
      have := congrArg List.length e
      have h3 := List.length_pos_iff.2 (dec_digits (v / 10)).2
      simp only [List.length_append, List.length_cons, List.length_nil] at this
      omega
    · rw [if_neg h1, if_pos h2] at e
      have := congrArg List.length e
      have h3 := List.length_pos_iff.2 (dec_digits (u / 10)).2
      simp only [List.length_append, List.length_cons, List.length_nil] at this
      omega
    · rw [if_neg h1, if_neg h2] at e
      obtain ⟨e1, e2⟩ := List.append_inj' e rfl
      have h3 := ih (u / 10) (by omega) _ e1
      injection e2 with e2 _
      have := congrArg UInt8.toNat e2
      rw [dig_nat (by omega), dig_nat (by omega)] at this
      omega
theorem itoa_dec {n : Int} (h : 0 ≤ n) : Lib.itoa n = Lib.decDigits n.toNat := by
  have := Lib.itoa_nonneg n.toNat
  rwa [Int.toNat_of_nonneg h] at this
theorem itoa_part {n : Int} (h : 0 ≤ n) : (Lib.itoa n).all partB8 = true ∧ ∃ c r, Lib.itoa n = c :: r ∧ digitI c.toNat = true := by
  rw [itoa_dec h]
  obtain ⟨h1, h2⟩ := dec_digits n.toNat
  refine ⟨List.all_eq_true.2 fun c hc => by simp [partB8, h1 c hc], ?_⟩
  cases hd : Lib.decDigits n.toNat with
  | nil => exact absurd hd h2
  | cons c r => exact ⟨c, r, rfl, h1 c (by rw [hd]; simp)⟩
theorem itoa_inj {n m : Int} (hn : 0 ≤ n) (hm : 0 ≤ m) (e : Lib.itoa n = Lib.itoa m) : n = m := by
  rw [itoa_dec hn, itoa_dec hm] at e
  have := dec_inj _ _ e
  omega

/-! ### quoted texts -/
def unhex (c : UInt8) : Nat := if c.toNat < 58 then c.toNat - 48 else c.toNat - 87
/-- the first byte that is told, and how much tells it -/
def unq : List UInt8 → Option (UInt8 × Nat)
  | [] => none
  | c :: r =>
    if c = 92 then
      match r with
      | [] => some (c, 1)
      | d :: r2 =>
        if d = 110 then some (10, 2) else if d = 116 then some (9, 2)
        else if d = 120 then
          match r2 with
          | a :: b :: _ => some (UInt8.ofNat (16 * unhex a + unhex b), 4)
          | _ => some (d, 2)
        else some (d, 2)
    else some (c, 1)
theorem unq_all : ∀ n : Nat, n < 256 → unq (quoteC (UInt8.ofNat n)) = some (UInt8.ofNat n, (quoteC (UInt8.ofNat n)).length) ∧ (quoteC (UInt8.ofNat n)).head? ≠ some 34 ∧ (quoteC (UInt8.ofNat n)) ≠ [] ∧ ((quoteC (UInt8.ofNat n)).head? = some 92 → 2 ≤ (quoteC (UInt8.ofNat n)).length ∧ ((quoteC (UInt8.ofNat n)).tail.head? = some 120 → (quoteC (UInt8.ofNat n)).length = 4)) := by decide +kernel
theorem unq_byte (c : UInt8) (x : List UInt8) : unq (quoteC c ++ x) = some (c, (quoteC c).length) ∧ ∃ d r, quoteC c = d :: r ∧ d ≠ 34 := by
  have h := unq_all c.toNat c.toNat_lt
  rw [UInt8.ofNat_toNat] at h
  obtain ⟨h1, h2, h3, h4⟩ := h
  generalize quoteC c = q at *
  match q, h1, h2, h3, h4 with
  | [d], h1, h2, _, h4 =>
    refine ⟨?_, d, [], rfl, by simpa using h2⟩
    have hd : d ≠ 92 := fun e => by
      subst e
      have := (h4 rfl).1
      simp at this
    rw [← h1]
    simp only [List.singleton_append, unq, if_neg hd]
  | d :: e :: r, h1, h2, _, h4 =>
    refine ⟨?_, d, e :: r, rfl, by simpa using h2⟩
    by_cases hd : d = 92
    · subst hd
      obtain ⟨_, h6⟩ := h4 rfl
      by_cases he : e = 120
      · subst he
        match r, h6 rfl with
        | [a, b], _ => rw [← h1]; rfl
      · rw [← h1]
        simp only [List.cons_append, unq, if_neg he]
    · rw [← h1]
      simp only [List.cons_append, unq, if_neg hd]
theorem quotes_inj : ∀ {s t x y : List UInt8}, s.flatMap quoteC ++ 34 :: x = t.flatMap quoteC ++ 34 :: y → s = t ∧ x = y
  | [], [], x, y, e => by
    simp only [List.flatMap_nil, List.nil_append] at e
    injection e with _ e
    exact ⟨rfl, e⟩
  | [], c :: t, x, y, e => by
    obtain ⟨_, d, r, h1, h2⟩ := unq_byte c []
    rw [List.flatMap_nil, List.nil_append, List.flatMap_cons, h1] at e
    simp only [List.cons_append] at e
    injection e with e _
    exact absurd e.symm h2
  | c :: s, [], x, y, e => by
    obtain ⟨_, d, r, h1, h2⟩ := unq_byte c []
    rw [List.flatMap_nil, List.nil_append, List.flatMap_cons, h1] at e
    simp only [List.cons_append] at e
    injection e with e _
    exact absurd e h2
  | c :: s, c' :: t, x, y, e => by
    rw [List.flatMap_cons, List.flatMap_cons, List.append_assoc, List.append_assoc] at e
    have h1 := (unq_byte c (s.flatMap quoteC ++ 34 :: x)).1
    have h2 := (unq_byte c' (t.flatMap quoteC ++ 34 :: y)).1
    rw [e, h2] at h1
    injection h1 with h1
    injection h1 with h1 h3
    subst h1
    obtain ⟨h4, h5⟩ := quotes_inj (List.append_cancel_left e)
    exact ⟨by rw [h4], h5⟩
theorem quote_inj {s t x y : List UInt8} (e : quoteL s ++ x = quoteL t ++ y) : s = t ∧ x = y := by
  unfold quoteL at e
  simp only [List.append_assoc, List.cons_append, List.nil_append] at e
  injection e with _ e
  exact quotes_inj e

/-! ### lists -/
def tailJ (f : Tree → List UInt8) (l : List Tree) : List UInt8 := l.flatMap fun u => [44, 32] ++ f u
theorem join_tail (f : Tree → List UInt8) : ∀ (u : Tree) (l : List Tree), Lib.join ((u :: l).map f) [44, 32] = f u ++ tailJ f l
  | u, [] => by simp [Lib.join, List.intercalate, tailJ]
  | u, v :: l => by
    have h := join_tail f v l
    have e : Lib.join ((u :: v :: l).map f) [44, 32] = f u ++ [44, 32] ++ Lib.join ((v :: l).map f) [44, 32] := by simp [Lib.join, List.intercalate]
    rw [e, h]
    simp [tailJ]
/-- Two rows of parts, each followed by a comma or by c0. -/
def PartInj (f : Tree → List UInt8) (c0 : UInt8) (u v : Tree) : Prop := ∀ {c d : UInt8} {x y : List UInt8}, (c = 44 ∨ c = c0) → (d = 44 ∨ d = c0) → f u ++ c :: x = f v ++ d :: y → u.strip = v.strip ∧ c :: x = d :: y
theorem tail_inj {f : Tree → List UInt8} {c0 : UInt8} (hc : c0 ≠ 44) : ∀ {l m : List Tree} {x y : List UInt8}, (∀ u, u ∈ l → ∀ v, v ∈ m → PartInj f c0 u v) → tailJ f l ++ c0 :: x = tailJ f m ++ c0 :: y → l.map Tree.strip = m.map Tree.strip ∧ x = y
  | [], [], x, y, _, e => by
    simp only [tailJ, List.flatMap_nil, List.nil_append] at e
    injection e with _ e
    exact ⟨rfl, e⟩
  | [], v :: m, x, y, _, e => by
    simp only [tailJ, List.flatMap_nil, List.flatMap_cons, List.nil_append, List.cons_append] at e
    injection e with e _
    exact absurd e hc
  | u :: l, [], x, y, _, e => by
    simp only [tailJ, List.flatMap_nil, List.flatMap_cons, List.nil_append, List.cons_append] at e
    injection e with e _
    exact absurd e.symm hc
  | u :: l, v :: m, x, y, h, e => by
    have e1 : ∀ (w : Tree) (k : List Tree), tailJ f (w :: k) = 44 :: 32 :: (f w ++ tailJ f k) := fun w k => by simp [tailJ]
    rw [e1, e1] at e
    simp only [List.cons_append, List.append_assoc] at e
    injection e with _ e
    injection e with _ e
    have hd : ∀ (k : List Tree) (z : List UInt8), ∃ c r, tailJ f k ++ c0 :: z = c :: r ∧ (c = 44 ∨ c = c0) := by
      intro k z
      cases k with
      | nil => exact ⟨c0, z, by simp [tailJ], .inr rfl⟩
      | cons w k => exact ⟨44, _, by rw [e1]; rfl, .inl rfl⟩
    obtain ⟨c, r, hr, hcc⟩ := hd l x
    obtain ⟨c', r', hr', hcc'⟩ := hd m y
    rw [hr, hr'] at e
    obtain ⟨h1, h2⟩ := h u (by simp) v (by simp) hcc hcc' e
    rw [← hr, ← hr'] at h2
    obtain ⟨h3, h4⟩ := tail_inj hc (fun a ha b hb => h a (by simp [ha]) b (by simp [hb])) h2
    exact ⟨by rw [List.map_cons, List.map_cons, h1, h3], h4⟩
theorem join_inj {f : Tree → List UInt8} {c0 : UInt8} (hc : c0 ≠ 44) {l m : List Tree} {x y : List UInt8} (h : ∀ u, u ∈ l → ∀ v, v ∈ m → PartInj f c0 u v) (hl : ∀ u, u ∈ l → ∀ z, (f u ++ z).head? ≠ some c0) (hm : ∀ u, u ∈ m → ∀ z, (f u ++ z).head? ≠ some c0)
    (e : Lib.join (l.map f) [44, 32] ++ c0 :: x = Lib.join (m.map f) [44, 32] ++ c0 :: y) : l.map Tree.strip = m.map Tree.strip ∧ x = y := by
  have e0 : Lib.join ([].map f) [44, 32] = [] := by simp [Lib.join, List.intercalate]
  cases l with
  | nil =>
    cases m with
    | nil =>
      rw [e0] at e
      simp only [List.nil_append] at e
      injection e with _ e
      exact ⟨rfl, e⟩
    | cons v m =>
      rw [e0, join_tail, List.nil_append, List.append_assoc] at e
      exact absurd (by rw [← e]; rfl) (hm v (by simp) (tailJ f m ++ c0 :: y))
  | cons u l =>
    cases m with
    | nil =>
      rw [e0, join_tail, List.nil_append, List.append_assoc] at e
      exact absurd (by rw [e]; rfl) (hl u (by simp) (tailJ f l ++ c0 :: x))
    | cons v m =>
      refine tail_inj (f := f) hc (l := u :: l) (m := v :: m) h ?_
      have e1 : ∀ (w : Tree) (k : List Tree), tailJ f (w :: k) = 44 :: 32 :: (f w ++ tailJ f k) := fun w k => by simp [tailJ]
      rw [join_tail, join_tail] at e
      rw [e1, e1, List.cons_append, List.cons_append, e]
      rfl

/-! ### lines -/
theorem lines_cons (R : Tree → List UInt8 → List UInt8) (u : Tree) (l : List Tree) (i : List UInt8) : linesL R (u :: l) i = i ++ (R u i ++ 10 :: linesL R l i) := by simp [linesL]
theorem lines_inj {R : Tree → List UInt8 → List UInt8} {i : List UInt8} : ∀ {l m : List Tree} {x y : List UInt8}, (∀ u, u ∈ l → ∀ v, v ∈ m → ∀ {p q : List UInt8}, R u i ++ 10 :: p = R v i ++ 10 :: q → u.strip = v.strip ∧ p = q) →
    (∀ v, v ∈ m → ∀ z, x ≠ i ++ (R v i ++ 10 :: z)) → (∀ u, u ∈ l → ∀ z, i ++ (R u i ++ 10 :: z) ≠ y) →
    linesL R l i ++ x = linesL R m i ++ y → l.map Tree.strip = m.map Tree.strip ∧ x = y
  | [], [], x, y, _, _, _, e => ⟨rfl, e⟩
  | [], v :: m, x, y, _, h2, _, e => by
    rw [lines_cons] at e
    simp only [linesL, List.flatMap_nil, List.nil_append, List.append_assoc, List.cons_append] at e
    exact absurd e (h2 v (by simp) _)
  | u :: l, [], x, y, _, _, h3, e => by
    rw [lines_cons] at e
    simp only [linesL, List.flatMap_nil, List.nil_append, List.append_assoc, List.cons_append] at e
    exact absurd e (h3 u (by simp) _)
  | u :: l, v :: m, x, y, h1, h2, h3, e => by
    rw [lines_cons, lines_cons] at e
    simp only [List.append_assoc, List.cons_append] at e
    have e2 := List.append_cancel_left e
    obtain ⟨h4, h5⟩ := h1 u (by simp) v (by simp) e2
    obtain ⟨h6, h7⟩ := lines_inj (fun a ha b hb => h1 a (by simp [ha]) b (by simp [hb])) (fun a ha => h2 a (by simp [ha])) (fun a ha => h3 a (by simp [ha])) h5
    exact ⟨by rw [List.map_cons, List.map_cons, h4, h6], h7⟩

end Go.Proofs.YtcidccifnaecaaaDoor
