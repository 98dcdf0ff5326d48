/- Unlike trees have unlike texts, third part: the text of a tree that fits tells the tree, but for its lines. Plain words, no program in sight. -/
import Derived.Test.YtcidccifnaecaaaDoorApB
namespace Go.Proofs.YtcidccifnaecaaaDoor
open Go.RowKit

/-! ### small tools -/
theorem upto_inj {c : UInt8} : ∀ {w v x y : List UInt8}, c ∉ w → c ∉ v → w ++ c :: x = v ++ c :: y → w = v ∧ x = y
  | [], [], _, _, _, _, e => by
    rw [List.nil_append, List.nil_append] at e
    injection e with _ e
    exact ⟨rfl, e⟩
  | [], d :: v, _, _, _, h, e => by
    rw [List.nil_append, List.cons_append] at e
    injection e with e _
    subst e
    exact absurd (List.mem_cons_self) h
  | d :: w, [], _, _, h, _, e => by
    rw [List.nil_append, List.cons_append] at e
    injection e with e _
    subst e
    exact absurd (List.mem_cons_self) h
  | d :: w, d' :: v, x, y, h1, h2, e => by
    rw [List.cons_append, List.cons_append] at e
    injection e with e1 e2
    obtain ⟨h3, h4⟩ := upto_inj (fun h => h1 (List.mem_cons_of_mem _ h)) (fun h => h2 (List.mem_cons_of_mem _ h)) e2
    exact ⟨by rw [e1, h3], h4⟩
theorem head_any {h : Nat} {u : Tree} {i : List UInt8} (hu : EF h u) (hh : h ≤ 100) {c : UInt8} (h1 : letterB c = false) (h2 : digitI c.toNat = false) (h3 : c ≠ 34) (h4 : c ≠ 40) (z : List UInt8) : (tx u i ++ z).head? ≠ some c := by
  have h5 := (head_expr h hu hh (i := i) (x := []) trivial).1
  rw [List.append_nil] at h5
  cases ht : tx u i with
  | nil => rw [ht] at h5; exact h5.elim
  | cons d r =>
    rw [ht] at h5
    have := h5.ne h1 h2 h3 h4
    simpa using this
theorem st_of {c : UInt8} {x : List UInt8} (h : c = 44 ∨ c = 41 ∨ c = 125 ∨ c = 32 ∨ c = 59 ∨ c = 93) : st (c :: x) := by
  rcases h with rfl | rfl | rfl | rfl | rfl | rfl <;> exact ⟨by decide, by decide, by decide, by decide⟩
theorem np_of {c : UInt8} {x : List UInt8} (h : c = 40 ∨ c = 46 ∨ c = 91 ∨ c = 59 ∨ c = 32 ∨ c = 41) : np (c :: x) := by
  rcases h with rfl | rfl | rfl | rfl | rfl | rfl <;> (show partB8 _ = false; decide)
theorem name_open {h : Nat} {a : Tree} (ha : EF h a) (hop : a.op = 1) : ∃ s ln, a = .node 1 s 0 [] ln ∧ nameB s.data.toList = true := by
  cases h with
  | zero => have := ha.1; simp [fitsB] at this
  | succ h =>
    obtain ⟨op, s, n, l, ln⟩ := a
    obtain rfl : op = 1 := hop
    obtain ⟨h1, h2, h3, h4, hp⟩ := node_open (f := _) (lo := _) (hi := _) rfl ha.1
    obtain rfl : n = 0 := by simpa [numB] using h3
    obtain rfl := lenT0 h2
    exact ⟨s, ln, rfl, by simpa [testB] using h4⟩
theorem name_inj {h h' : Nat} {a b : Tree} {i x y : List UInt8} (ha : EF h a) (hb : EF h' b) (hh : h ≤ 100) (hh' : h' ≤ 100) (h1 : a.op = 1) (h2 : b.op = 1) (hx : np x) (hy : np y) (e : tx a i ++ x = tx b i ++ y) : a.strip = b.strip ∧ x = y := by
  obtain ⟨s, ln, rfl, hs⟩ := name_open ha h1
  obtain ⟨s', ln', rfl, hs'⟩ := name_open hb h2
  cases h with
  | zero => have := ha.1; simp [fitsB] at this
  | succ h =>
  cases h' with
  | zero => have := hb.1; simp [fitsB] at this
  | succ h' =>
  rw [tx_t1 ha.1 hh, tx_t1 hb.1 hh'] at e
  obtain ⟨h3, h4⟩ := run_inj (name_part hs).1 (name_part hs').1 hx hy e
  exact ⟨by rw [strip_node, strip_node, bytes_inj h3], h4⟩
theorem name_head {h : Nat} {a : Tree} {i x y : List UInt8} (ha : EF h a) (hh : h ≤ 100) (h1 : a.op = 1) (e : tx a i ++ x = 40 :: y) : False := by
  obtain ⟨s, ln, rfl, hs⟩ := name_open ha h1
  cases h with
  | zero => have := ha.1; simp [fitsB] at this
  | succ h =>
  rw [tx_t1 ha.1 hh] at e
  obtain ⟨_, _, c, r, h3, h4⟩ := name_part hs
  rw [h3, List.cons_append] at e
  injection e with e _
  rw [e] at h4
  exact absurd h4 (by decide)
theorem pair_open {h : Nat} {u : Tree} (hf : fitsB (h + 1) u = true) (hop : u.op = 12) : ∃ s a ln, u = .node 12 s 0 [a] ln ∧ EF h a := by
  obtain ⟨op, s, n, l, ln⟩ := u
  obtain rfl : op = 12 := hop
  obtain ⟨h1, h2, h3, h4, hp⟩ := node_open (f := _) (lo := _) (hi := _) rfl hf
  obtain rfl : n = 0 := by simpa [numB] using h3
  obtain ⟨a, rfl⟩ := lenT1 h1 h2
  exact ⟨s, a, ln, rfl, (hp 0 a rfl).2, part_of (hp 0 a rfl).1 (by decide) (by decide) (by decide) (by decide) (by decide) (by decide)⟩
theorem block_open {h : Nat} {u : Tree} (hb : BF (h + 1) u) : ∃ l ln, u = .node 32 ⟨#[]⟩ 0 l ln ∧ ∀ v, v ∈ l → SF h v := by
  obtain ⟨op, s, n, l, ln⟩ := u
  obtain ⟨hf, hop⟩ := hb
  obtain rfl : op = 32 := hop
  obtain ⟨h1, h2, h3, h4, hp⟩ := node_open (f := _) (lo := _) (hi := _) rfl hf
  obtain rfl : n = 0 := by simpa [numB] using h3
  obtain rfl : s = ⟨#[]⟩ := empty_bytes (by simpa [testB] using h4)
  refine ⟨l, ln, rfl, fun v hv => ?_⟩
  obtain ⟨j, hj⟩ := List.getElem?_of_mem hv
  exact ⟨(hp j v hj).2, by simpa [partB] using (hp j v hj).1⟩

/-! ### what is shown, level by level -/
def PE (k : Nat) : Prop := ∀ {h' : Nat} {a b : Tree} {i x y : List UInt8}, EF k a → EF h' b → h' ≤ 100 → st x → st y → tx a i ++ x = tx b i ++ y → a.strip = b.strip ∧ x = y
def PB (k : Nat) : Prop := ∀ {h' : Nat} {a b : Tree} {i x y : List UInt8}, BF k a → BF h' b → h' ≤ 100 → tx a i ++ x = tx b i ++ y → a.strip = b.strip ∧ x = y
def PS (k : Nat) : Prop := ∀ {h' : Nat} {a b : Tree} {i x y : List UInt8}, SF k a → SF h' b → h' ≤ 100 → tx a i ++ 10 :: x = tx b i ++ 10 :: y → a.strip = b.strip ∧ x = y
theorem list_inj {k h' : Nat} {l m : List Tree} {i x y : List UInt8} (hP : PE k) (hk : k ≤ 100) (hh : h' ≤ 100) (hl : ∀ u, u ∈ l → EF k u) (hm : ∀ u, u ∈ m → EF h' u)
    (e : Lib.join (l.map fun u => tx u i) [44, 32] ++ 41 :: x = Lib.join (m.map fun u => tx u i) [44, 32] ++ 41 :: y) : l.map Tree.strip = m.map Tree.strip ∧ x = y :=
  join_inj (f := fun u => tx u i) (c0 := 41) (by decide)
    (fun u hu v hv {c d x y} hc hd e => hP (hl u hu) (hm v hv) hh (st_of (by rcases hc with h | h <;> simp [h])) (st_of (by rcases hd with h | h <;> simp [h])) e)
    (fun u hu z => head_any (hl u hu) hk (by decide) (by decide) (by decide) (by decide) z)
    (fun u hu z => head_any (hm u hu) hh (by decide) (by decide) (by decide) (by decide) z) e

/-! ### spines -/
def strI (q : Int × ByteArray × List Tree) : Int × ByteArray × List Tree := (q.1, q.2.1, q.2.2.map Tree.strip)
def wrapS (t : Tree) (q : Int × ByteArray × List Tree) : Tree := .node q.1 q.2.1 0 (t :: q.2.2) 0
def itT (i : List UInt8) (q : Int × ByteArray × List Tree) : List UInt8 :=
  if q.1 = 13 then 46 :: q.2.1.data.toList
  else if q.1 = 14 then 91 :: (((q.2.2.map fun u => tx u i).getD 0 []) ++ [93])
  else 40 :: (Lib.join (q.2.2.map fun u => tx u i) [44, 32] ++ [41])
def itOk (h : Nat) (q : Int × ByteArray × List Tree) : Prop :=
  (q.1 = 13 ∧ q.2.2 = [] ∧ q.2.1.data.toList.all partB8 = true) ∨ (q.1 = 14 ∧ q.2.1 = ⟨#[]⟩ ∧ ∃ b k, q.2.2 = [b] ∧ k < h ∧ EF k b) ∨ (q.1 = 15 ∧ q.2.1 = ⟨#[]⟩ ∧ ∃ k, k < h ∧ ∀ u, u ∈ q.2.2 → EF k u)
theorem itOk.mono {h h' : Nat} (hh : h ≤ h') {q : Int × ByteArray × List Tree} (hq : itOk h q) : itOk h' q := by
  rcases hq with h1 | ⟨h1, h2, b, k, h3, h4, h5⟩ | ⟨h1, h2, k, h4, h5⟩
  · exact .inl h1
  · exact .inr (.inl ⟨h1, h2, b, k, h3, by omega, h5⟩)
  · exact .inr (.inr ⟨h1, h2, k, by omega, h5⟩)
def baseB (t : Tree) : Bool := !(t.op == 14 || t.op == 15 || (t.op == 13 && !((t.l.map Tree.op).getD 0 0 == 2)))
def Spine (h : Nat) (e : Tree) : Prop := ∃ (b0 : Tree) (its : List (Int × ByteArray × List Tree)) (k : Nat), k ≤ h ∧ EF k b0 ∧ baseB b0 = true ∧ (∀ q, q ∈ its → itOk h q) ∧
  (∀ i x, tx e i ++ x = tx b0 i ++ (its.flatMap (itT i) ++ x)) ∧ e.strip = (its.map strI).foldl wrapS b0.strip
theorem spine_base {h : Nat} {e : Tree} (he : EF h e) (hb : baseB e = true) : Spine h e :=
  ⟨e, [], h, Nat.le_refl _, he, hb, fun _ hq => by simp at hq, fun _ _ => rfl, rfl⟩
theorem spine_chain {h : Nat} {k : Int} {s : ByteArray} {a : Tree} {r : List Tree} {ln : Int} (ih : Spine h a) (hq : itOk (h + 1) (k, s, r))
    (ht : ∀ i x, tx (.node k s 0 (a :: r) ln) i ++ x = tx a i ++ (itT i (k, s, r) ++ x)) : Spine (h + 1) (.node k s 0 (a :: r) ln) := by
  obtain ⟨b0, its, m, h1, h2, h3, h4, h5, h6⟩ := ih
  refine ⟨b0, its ++ [(k, s, r)], m, by omega, h2, h3, fun q hq' => ?_, fun i x => ?_, ?_⟩
  · rcases List.mem_append.1 hq' with h7 | h7
    · exact (h4 q h7).mono (by omega)
    · obtain rfl : q = (k, s, r) := by simpa using h7
      exact hq
  · rw [ht, h5, List.flatMap_append, List.append_assoc]
    simp
  · rw [strip_node, List.map_cons, h6, List.map_append, List.foldl_append]
    rfl
theorem spine_of : ∀ (h : Nat) {e : Tree}, EF h e → h ≤ 100 → Spine h e
  | 0, e, he, _ => by
    have := he.1
    simp [fitsB] at this
  | h + 1, e, he, hh => by
    have hf := he.1
    by_cases hb : baseB e = true
    · exact spine_base he hb
    · cases ek_of he.1 he.2 with
      | mem s a ln h1 h2 =>
        have ha : ¬ a.op = 2 := fun ha => hb (by simp [baseB, Tree.op, Tree.l]; exact ha)
        exact spine_chain (spine_of h h2 (by omega)) (.inl ⟨rfl, rfl, h1⟩) (fun i x => by rw [tx_t13 hf hh ha]; simp [itT])
      | idx a b ln h1 h2 => exact spine_chain (spine_of h h1 (by omega)) (.inr (.inl ⟨rfl, rfl, b, h, rfl, by omega, h2⟩)) (fun i x => by rw [tx_t14 hf hh]; simp [itT])
      | call a r ln h1 h2 => exact spine_chain (spine_of h h1 (by omega)) (.inr (.inr ⟨rfl, rfl, h, by omega, h2⟩)) (fun i x => by rw [tx_t15 hf hh]; simp [itT])
      | name s ln hn => exact absurd rfl hb
      | num n ln hn => exact absurd rfl hb
      | str s ln => exact absurd rfl hb
      | con k ln h4 h9 => exact absurd (by simp [baseB, Tree.op]; omega) hb
      | fn s ks b ln h1 h2 h3 => exact absurd rfl hb
      | obj l ln h1 => exact absurd rfl hb
      | new a r ln h1 h2 => exact absurd rfl hb
      | bin k s a b ln h1 h2 h3 => exact absurd (by rcases h1 with ⟨rfl, _⟩ | ⟨rfl, _⟩ | ⟨rfl, _⟩ | ⟨rfl, _⟩ <;> rfl) hb
      | not a ln h1 => exact absurd rfl hb
      | neg a ln h1 => exact absurd rfl hb
      | cond a b c ln h1 h2 h3 => exact absurd rfl hb
theorem it_head {h : Nat} {q : Int × ByteArray × List Tree} (hq : itOk h q) (i : List UInt8) : ∃ c r, itT i q = c :: r ∧ (c = 40 ∨ c = 46 ∨ c = 91) := by
  rcases hq with ⟨h1, _⟩ | ⟨h1, _⟩ | ⟨h1, _⟩
  · exact ⟨46, _, by unfold itT; rw [if_pos h1], by simp⟩
  · exact ⟨91, _, by unfold itT; rw [if_neg (by omega), if_pos h1], by simp⟩
  · exact ⟨40, _, by unfold itT; rw [if_neg (by omega), if_neg (by omega)], by simp⟩
theorem flat_np {h : Nat} {its : List (Int × ByteArray × List Tree)} (hq : ∀ q, q ∈ its → itOk h q) {x : List UInt8} (hx : st x) (i : List UInt8) : np (its.flatMap (itT i) ++ x) := by
  cases its with
  | nil => exact hx.np
  | cons q its =>
    obtain ⟨c, r, h1, h2⟩ := it_head (hq q (by simp)) i
    rw [List.flatMap_cons, h1, List.append_assoc, List.cons_append]
    exact np_of (by rcases h2 with h | h | h <;> simp [h])
theorem it_inj {h h' : Nat} {q q' : Int × ByteArray × List Tree} {i x y : List UInt8} (ih : ∀ m, m < h → PE m) (hh : h ≤ 100) (hh' : h' ≤ 100) (hq : itOk h q) (hq' : itOk h' q') (hx : np x) (hy : np y) (e : itT i q ++ x = itT i q' ++ y) : strI q = strI q' ∧ x = y := by
  obtain ⟨k, s, l⟩ := q
  obtain ⟨k', s', l'⟩ := q'
  rcases hq with ⟨h1, h2, h3⟩ | ⟨h1, h2, b, m, h3, h4, h5⟩ | ⟨h1, h2, m, h4, h5⟩ <;> rcases hq' with ⟨g1, g2, g3⟩ | ⟨g1, g2, b', m', g3, g4, g5⟩ | ⟨g1, g2, m', g4, g5⟩ <;> simp only at h1 h2 g1 g2 <;> subst h1 <;> subst g1 <;> subst h2 <;> subst g2
  · have e1 : 46 :: (s.data.toList ++ x) = 46 :: (s'.data.toList ++ y) := e
    injection e1 with _ e1
    obtain ⟨h6, h7⟩ := run_inj h3 g3 hx hy e1
    have h8 : s = s' := bytes_inj h6
    exact ⟨by rw [h8], h7⟩
  · exact absurd (List.cons.inj (show (46 : UInt8) :: _ = (91 : UInt8) :: _ from e)).1 (by decide)
  · exact absurd (List.cons.inj (show (46 : UInt8) :: _ = (40 : UInt8) :: _ from e)).1 (by decide)
  · exact absurd (List.cons.inj (show (91 : UInt8) :: _ = (46 : UInt8) :: _ from e)).1 (by decide)
  · simp only at h3 g3
    subst h3
    subst g3
    have e1 : 91 :: ((tx b i ++ [93]) ++ x) = 91 :: ((tx b' i ++ [93]) ++ y) := e
    injection e1 with _ e1
    rw [List.append_assoc, List.append_assoc] at e1
    obtain ⟨h6, h7⟩ := ih m h4 h5 g5 (by omega) (st_of (by simp)) (st_of (by simp)) e1
    have e2 : 93 :: x = 93 :: y := h7
    injection e2 with _ e2
    refine ⟨?_, e2⟩
    simp only [strI, List.map_cons, List.map_nil, h6]
  · exact absurd (List.cons.inj (show (91 : UInt8) :: _ = (40 : UInt8) :: _ from e)).1 (by decide)
  · exact absurd (List.cons.inj (show (40 : UInt8) :: _ = (46 : UInt8) :: _ from e)).1 (by decide)
  · exact absurd (List.cons.inj (show (40 : UInt8) :: _ = (91 : UInt8) :: _ from e)).1 (by decide)
  · have e1 : 40 :: ((Lib.join (l.map fun u => tx u i) [44, 32] ++ [41]) ++ x) = 40 :: ((Lib.join (l'.map fun u => tx u i) [44, 32] ++ [41]) ++ y) := e
    injection e1 with _ e1
    rw [List.append_assoc, List.append_assoc] at e1
    obtain ⟨h6, h7⟩ := list_inj (ih m h4) (by omega) (show m' ≤ 100 by omega) h5 g5 e1
    refine ⟨?_, h7⟩
    simp only [strI, h6]
theorem items_inj {h h' : Nat} {i : List UInt8} (ih : ∀ m, m < h → PE m) (hh : h ≤ 100) (hh' : h' ≤ 100) : ∀ {its its' : List (Int × ByteArray × List Tree)} {x y : List UInt8}, (∀ q, q ∈ its → itOk h q) → (∀ q, q ∈ its' → itOk h' q) → st x → st y →
    its.flatMap (itT i) ++ x = its'.flatMap (itT i) ++ y → its.map strI = its'.map strI ∧ x = y
  | [], [], x, y, _, _, _, _, e => ⟨rfl, e⟩
  | [], q :: its, x, y, _, h2, hx, _, e => by
    obtain ⟨c, r, h3, h4⟩ := it_head (h2 q (by simp)) i
    rw [List.flatMap_nil, List.nil_append, List.flatMap_cons, h3, List.append_assoc, List.cons_append] at e
    subst e
    obtain ⟨_, g1, g2, g3⟩ := hx
    rcases h4 with h | h | h
    · exact absurd h g3
    · exact absurd h g1
    · exact absurd h g2
  | q :: its, [], x, y, h1, _, _, hy, e => by
    obtain ⟨c, r, h3, h4⟩ := it_head (h1 q (by simp)) i
    rw [List.flatMap_nil, List.nil_append, List.flatMap_cons, h3, List.append_assoc, List.cons_append] at e
    subst e
    obtain ⟨_, g1, g2, g3⟩ := hy
    rcases h4 with h | h | h
    · exact absurd h g3
    · exact absurd h g1
    · exact absurd h g2
  | q :: its, q' :: its', x, y, h1, h2, hx, hy, e => by
    rw [List.flatMap_cons, List.flatMap_cons, List.append_assoc, List.append_assoc] at e
    obtain ⟨h3, h4⟩ := it_inj ih hh hh' (h1 q (by simp)) (h2 q' (by simp)) (flat_np (fun a ha => h1 a (by simp [ha])) hx i) (flat_np (fun a ha => h2 a (by simp [ha])) hy i) e
    obtain ⟨h5, h6⟩ := items_inj ih hh hh' (fun a ha => h1 a (by simp [ha])) (fun a ha => h2 a (by simp [ha])) hx hy h4
    exact ⟨by rw [List.map_cons, List.map_cons, h3, h5], h6⟩

/-! ### classes of texts -/
def cls (t : Tree) : Nat :=
  if t.op = 1 ∨ (4 ≤ t.op ∧ t.op ≤ 9) then 1 else if t.op = 2 then 2 else if t.op = 3 then 3 else if t.op = 10 then 4 else if t.op = 11 then 5 else if t.op = 16 then 6 else if t.op = 19 then 7 else if t.op = 20 then 8 else 9
def tagP (r : List UInt8) : Nat :=
  if r.head? = some 123 then 5 else if r.head? = some 33 then 7 else if r.head? = some 45 then 8 else if r.takeWhile partB8 = runF then 4 else if r.takeWhile partB8 = runN then 6 else 9
def tagT : List UInt8 → Nat
  | [] => 0
  | c :: r => if letterB c = true then 1 else if digitI c.toNat = true then 2 else if c = 34 then 3 else tagP r
theorem tag_letter {c : UInt8} {r : List UInt8} (h : letterB c = true) : tagT (c :: r) = 1 := by show (if letterB c = true then 1 else _) = 1; rw [if_pos h]
theorem letter_digit {c : UInt8} (h : digitI c.toNat = true) : letterB c = false := by
  unfold digitI at h
  unfold letterB letterI
  simp only [Bool.and_eq_true, decide_eq_true_eq] at h
  simp
  omega
theorem tag_digit {c : UInt8} {r : List UInt8} (h : digitI c.toNat = true) : tagT (c :: r) = 2 := by
  show (if letterB c = true then 1 else if digitI c.toNat = true then 2 else _) = 2
  rw [if_neg (by rw [letter_digit h]; decide), if_pos h]
theorem tag_paren (r : List UInt8) : tagT (40 :: r) = tagP r := by
  show (if letterB 40 = true then 1 else if digitI (40 : UInt8).toNat = true then 2 else if (40 : UInt8) = 34 then 3 else tagP r) = tagP r
  rw [if_neg (by decide), if_neg (by decide), if_neg (by decide)]
theorem tagP_nine {r : List UInt8} (h : okHead r) (h2 : okRun (r.takeWhile partB8)) : tagP r = 9 := by
  unfold tagP
  rw [if_neg (h.ne (by decide) (by decide) (by decide) (by decide)), if_neg (h.ne (by decide) (by decide) (by decide) (by decide)), if_neg (h.ne (by decide) (by decide) (by decide) (by decide)), if_neg h2.runFn, if_neg h2.runNn]
theorem cls_con {k : Int} {s : ByteArray} {n : Int} {l : List Tree} {ln : Int} (h4 : 4 ≤ k) (h9 : k ≤ 9) : cls (.node k s n l ln) = 1 := by
  unfold cls
  rw [if_pos (.inr ⟨h4, h9⟩)]
theorem cls_bin {k : Int} {s : ByteArray} {a b : Tree} {ln : Int} (h : BinK k s) : cls (.node k s 0 [a, b] ln) = 9 := by
  rcases h with ⟨rfl, _⟩ | ⟨rfl, _⟩ | ⟨rfl, _⟩ | ⟨rfl, _⟩ <;> rfl
theorem tag_base {h : Nat} {e : Tree} {i x : List UInt8} (he : EF (h + 1) e) (hh : h + 1 ≤ 100) (hb : baseB e = true) : tagT (tx e i ++ x) = cls e := by
  have hf := he.1
  have hp : ∀ {a : Tree} {c : UInt8} {z : List UInt8}, EF h a → (c = 40 ∨ c = 46 ∨ c = 91 ∨ c = 59 ∨ c = 32 ∨ c = 41) → tagP (tx a i ++ c :: z) = 9 := fun ha hc => by
    obtain ⟨h1, h2⟩ := head_expr h ha (by omega) (np_of hc)
    exact tagP_nine h1 h2
  cases ek_of he.1 he.2 with
  | name s ln hn =>
    rw [tx_t1 hf hh]
    obtain ⟨_, _, c, r, h3, h4⟩ := name_part hn
    rw [h3]
    exact tag_letter h4
  | num n ln hn =>
    rw [tx_t2 hf hh]
    obtain ⟨_, c, r, h3, h4⟩ := itoa_part hn
    rw [h3]
    exact tag_digit h4
  | str s ln => rw [tx_t3 hf hh]; rfl
  | con k ln h4 h9 =>
    rw [tx_c hf hh h4 h9, cls_con h4 h9]
    obtain ⟨_, _, c, r, h3, h5⟩ := con_word h4 h9
    rw [h3]
    exact tag_letter h5
  | fn s ks b ln h1 h2 h3 =>
    rw [tx_t10 hf hh, tag_paren]
    have hr : ∀ z, np z → tagP (runF ++ z) = 4 := fun z hz => by
      unfold tagP
      rw [run_of runF_word.1 hz]
      rfl
    refine hr _ ?_
    by_cases h0 : s.data.toList = []
    · rw [if_pos h0]; exact np_of (by simp)
    · rw [if_neg h0]; exact np_of (by simp)
  | obj l ln h1 => rw [tx_t11 hf hh, tag_paren]; rfl
  | mem s a ln h1 h2 =>
    have ha : a.op = 2 := by simpa [baseB, Tree.op, Tree.l] using hb
    rw [tx_t13n hf hh ha, tag_paren, hp h2 (by simp)]
    rfl
  | idx a b ln h1 h2 => exact absurd hb (by simp [baseB, Tree.op])
  | call a r ln h1 h2 => exact absurd hb (by simp [baseB, Tree.op])
  | new a r ln h1 h2 =>
    have hr : ∀ z, np z → tagP (runN ++ z) = 6 := fun z hz => by
      unfold tagP
      rw [run_of runN_word.1 hz]
      rfl
    by_cases ha : a.op = 1
    · rw [tx_t16i hf hh ha, tag_paren]; exact hr _ (np_of (by simp))
    · rw [tx_t16 hf hh ha, tag_paren]; exact hr _ (np_of (by simp))
  | bin k s a b ln h1 h2 h3 => rw [tx_b hf hh h1, tag_paren, hp h2 (by simp), cls_bin h1]
  | not a ln h1 => rw [tx_t19 hf hh, tag_paren]; rfl
  | neg a ln h1 => rw [tx_t20 hf hh, tag_paren]; rfl
  | cond a b c ln h1 h2 h3 => rw [tx_t23 hf hh, tag_paren, hp h1 (by simp)]; rfl
theorem sign_ok {k : Int} {s : ByteArray} (h : BinK k s) : (32 : UInt8) ∉ signOf k s.data.toList ∧ signOf k s.data.toList ≠ [63] := by
  have e17 : ∀ l, signOf 17 l = [61] := fun _ => rfl
  have e21 : ∀ l, signOf 21 l = [38, 38] := fun _ => rfl
  have e22 : ∀ l, signOf 22 l = [124, 124] := fun _ => rfl
  rcases h with ⟨rfl, _⟩ | ⟨rfl, h⟩ | ⟨rfl, _⟩ | ⟨rfl, _⟩
  · rw [e17]; exact ⟨by decide, by decide⟩
  · have h1 : s.data.toList ∈ signsL := of_decide_eq_true h
    have h2 : signOf 18 s.data.toList = s.data.toList := rfl
    rw [h2]
    revert h1
    generalize s.data.toList = l
    intro h1
    simp only [signsL, List.mem_cons, List.not_mem_nil, or_false] at h1
    rcases h1 with h | h | h | h | h | h | h <;> subst h <;> exact ⟨by decide, by decide⟩
  · rw [e21]; exact ⟨by decide, by decide⟩
  · rw [e22]; exact ⟨by decide, by decide⟩
theorem sign_inj {k k' : Int} {s s' : ByteArray} (h : BinK k s) (h' : BinK k' s') (e : signOf k s.data.toList = signOf k' s'.data.toList) : k = k' ∧ s = s' := by
  have hn : ∀ {s : ByteArray}, signB s.data.toList = true → s.data.toList ≠ [61] ∧ s.data.toList ≠ [38, 38] ∧ s.data.toList ≠ [124, 124] := fun {s} h => by
    have h1 : s.data.toList ∈ signsL := of_decide_eq_true h
    revert h1
    generalize s.data.toList = l
    intro h1
    simp only [signsL, List.mem_cons, List.not_mem_nil, or_false] at h1
    rcases h1 with h | h | h | h | h | h | h <;> subst h <;> exact ⟨by decide, by decide, by decide⟩
  have e17 : ∀ l, signOf 17 l = [61] := fun _ => rfl
  have e18 : ∀ l, signOf 18 l = l := fun _ => rfl
  have e21 : ∀ l, signOf 21 l = [38, 38] := fun _ => rfl
  have e22 : ∀ l, signOf 22 l = [124, 124] := fun _ => rfl
  rcases h with ⟨rfl, h⟩ | ⟨rfl, h⟩ | ⟨rfl, h⟩ | ⟨rfl, h⟩ <;> rcases h' with ⟨rfl, h'⟩ | ⟨rfl, h'⟩ | ⟨rfl, h'⟩ | ⟨rfl, h'⟩ <;> simp only [e17, e18, e21, e22] at e
  · exact ⟨rfl, by rw [h, h']⟩
  · exact absurd e.symm (hn h').1
  · exact absurd e (by decide)
  · exact absurd e (by decide)
  · exact absurd e (hn h).1
  · exact ⟨rfl, bytes_inj e⟩
  · exact absurd e (hn h).2.1
  · exact absurd e (hn h).2.2
  · exact absurd e (by decide)
  · exact absurd e.symm (hn h').2.1
  · exact ⟨rfl, by rw [h, h']⟩
  · exact absurd e (by decide)
  · exact absurd e (by decide)
  · exact absurd e.symm (hn h').2.2
  · exact absurd e (by decide)
  · exact ⟨rfl, by rw [h, h']⟩

set_option maxHeartbeats 4000000 in
theorem base_inj {k h' : Nat} {a b : Tree} {i x y : List UInt8} (ih : ∀ m, m < k → PE m ∧ PB m ∧ PS m) (hk : k ≤ 100) (hk' : h' ≤ 100) (ha : EF k a) (hb0 : EF h' b) (hb : baseB a = true) (hb' : baseB b = true) (hx : np x) (hy : np y) (e : tx a i ++ x = tx b i ++ y) : a.strip = b.strip ∧ x = y := by
  cases k with
  | zero => have := ha.1; simp [fitsB] at this
  | succ m =>
  cases h' with
  | zero => have := hb0.1; simp [fitsB] at this
  | succ m' =>
  have hf := ha.1
  have hf' := hb0.1
  have hcls : cls a = cls b := by rw [← tag_base ha hk hb (i := i) (x := x), ← tag_base hb0 hk' hb' (i := i) (x := y), e]
  have hea := ek_of ha.1 ha.2
  have heb := ek_of hb0.1 hb0.2
  clear ha hb0
  cases hea with
  | name s ln hn =>
    cases heb with
    | name s' ln' hn' =>
      rw [tx_t1 hf hk, tx_t1 hf' hk'] at e
      obtain ⟨g1, g2⟩ := run_inj (name_part hn).1 (name_part hn').1 hx hy e
      exact ⟨by rw [strip_node, strip_node, bytes_inj g1], g2⟩
    | num n' ln' hn' =>
      exact absurd ((show cls _ = 1 from rfl).symm.trans (hcls.trans (show cls _ = 2 from rfl))) (by decide : ¬ (1 : Nat) = 2)
    | str s' ln' =>
      exact absurd ((show cls _ = 1 from rfl).symm.trans (hcls.trans (show cls _ = 3 from rfl))) (by decide : ¬ (1 : Nat) = 3)
    | con k' ln' h4' h9' =>
      rw [tx_t1 hf hk, tx_c hf' hk' h4' h9'] at e
      obtain ⟨g1, g2⟩ := run_inj (name_part hn).1 (con_word h4' h9').1 hx hy e
      have g3 := (name_part hn).2.1
      rw [g1, (con_word h4' h9').2.1] at g3
      cases g3
    | fn s' ks' b' ln' h1' h2' h3' =>
      exact absurd ((show cls _ = 1 from rfl).symm.trans (hcls.trans (show cls _ = 4 from rfl))) (by decide : ¬ (1 : Nat) = 4)
    | obj l' ln' h1' =>
      exact absurd ((show cls _ = 1 from rfl).symm.trans (hcls.trans (show cls _ = 5 from rfl))) (by decide : ¬ (1 : Nat) = 5)
    | mem s' a' ln' h1' h2' =>
      exact absurd ((show cls _ = 1 from rfl).symm.trans (hcls.trans (show cls _ = 9 from rfl))) (by decide : ¬ (1 : Nat) = 9)
    | idx a' b' ln' h1' h2' =>
      exact absurd hb' (by simp [baseB, Tree.op])
    | call a' r' ln' h1' h2' =>
      exact absurd hb' (by simp [baseB, Tree.op])
    | new a' r' ln' h1' h2' =>
      exact absurd ((show cls _ = 1 from rfl).symm.trans (hcls.trans (show cls _ = 6 from rfl))) (by decide : ¬ (1 : Nat) = 6)
    | bin k' s' a' b' ln' h1' h2' h3' =>
      exact absurd ((show cls _ = 1 from rfl).symm.trans (hcls.trans (show cls _ = 9 from cls_bin h1'))) (by decide : ¬ (1 : Nat) = 9)
    | not a' ln' h1' =>
      exact absurd ((show cls _ = 1 from rfl).symm.trans (hcls.trans (show cls _ = 7 from rfl))) (by decide : ¬ (1 : Nat) = 7)
    | neg a' ln' h1' =>
      exact absurd ((show cls _ = 1 from rfl).symm.trans (hcls.trans (show cls _ = 8 from rfl))) (by decide : ¬ (1 : Nat) = 8)
    | cond a' b' c' ln' h1' h2' h3' =>
      exact absurd ((show cls _ = 1 from rfl).symm.trans (hcls.trans (show cls _ = 9 from rfl))) (by decide : ¬ (1 : Nat) = 9)
  | num n ln hn =>
    cases heb with
    | name s' ln' hn' =>
      exact absurd ((show cls _ = 2 from rfl).symm.trans (hcls.trans (show cls _ = 1 from rfl))) (by decide : ¬ (2 : Nat) = 1)
    | num n' ln' hn' =>
      rw [tx_t2 hf hk, tx_t2 hf' hk'] at e
      obtain ⟨g1, g2⟩ := run_inj (itoa_part hn).1 (itoa_part hn').1 hx hy e
      exact ⟨by rw [strip_node, strip_node, itoa_inj hn hn' g1], g2⟩
    | str s' ln' =>
      exact absurd ((show cls _ = 2 from rfl).symm.trans (hcls.trans (show cls _ = 3 from rfl))) (by decide : ¬ (2 : Nat) = 3)
    | con k' ln' h4' h9' =>
      exact absurd ((show cls _ = 2 from rfl).symm.trans (hcls.trans (show cls _ = 1 from cls_con h4' h9'))) (by decide : ¬ (2 : Nat) = 1)
    | fn s' ks' b' ln' h1' h2' h3' =>
      exact absurd ((show cls _ = 2 from rfl).symm.trans (hcls.trans (show cls _ = 4 from rfl))) (by decide : ¬ (2 : Nat) = 4)
    | obj l' ln' h1' =>
      exact absurd ((show cls _ = 2 from rfl).symm.trans (hcls.trans (show cls _ = 5 from rfl))) (by decide : ¬ (2 : Nat) = 5)
    | mem s' a' ln' h1' h2' =>
      exact absurd ((show cls _ = 2 from rfl).symm.trans (hcls.trans (show cls _ = 9 from rfl))) (by decide : ¬ (2 : Nat) = 9)
    | idx a' b' ln' h1' h2' =>
      exact absurd hb' (by simp [baseB, Tree.op])
    | call a' r' ln' h1' h2' =>
      exact absurd hb' (by simp [baseB, Tree.op])
    | new a' r' ln' h1' h2' =>
      exact absurd ((show cls _ = 2 from rfl).symm.trans (hcls.trans (show cls _ = 6 from rfl))) (by decide : ¬ (2 : Nat) = 6)
    | bin k' s' a' b' ln' h1' h2' h3' =>
      exact absurd ((show cls _ = 2 from rfl).symm.trans (hcls.trans (show cls _ = 9 from cls_bin h1'))) (by decide : ¬ (2 : Nat) = 9)
    | not a' ln' h1' =>
      exact absurd ((show cls _ = 2 from rfl).symm.trans (hcls.trans (show cls _ = 7 from rfl))) (by decide : ¬ (2 : Nat) = 7)
    | neg a' ln' h1' =>
      exact absurd ((show cls _ = 2 from rfl).symm.trans (hcls.trans (show cls _ = 8 from rfl))) (by decide : ¬ (2 : Nat) = 8)
    | cond a' b' c' ln' h1' h2' h3' =>
      exact absurd ((show cls _ = 2 from rfl).symm.trans (hcls.trans (show cls _ = 9 from rfl))) (by decide : ¬ (2 : Nat) = 9)
  | str s ln =>
    cases heb with
    | name s' ln' hn' =>
      exact absurd ((show cls _ = 3 from rfl).symm.trans (hcls.trans (show cls _ = 1 from rfl))) (by decide : ¬ (3 : Nat) = 1)
    | num n' ln' hn' =>
      exact absurd ((show cls _ = 3 from rfl).symm.trans (hcls.trans (show cls _ = 2 from rfl))) (by decide : ¬ (3 : Nat) = 2)
    | str s' ln' =>
      rw [tx_t3 hf hk, tx_t3 hf' hk'] at e
      obtain ⟨g1, g2⟩ := quote_inj e
      exact ⟨by rw [strip_node, strip_node, bytes_inj g1], g2⟩
    | con k' ln' h4' h9' =>
      exact absurd ((show cls _ = 3 from rfl).symm.trans (hcls.trans (show cls _ = 1 from cls_con h4' h9'))) (by decide : ¬ (3 : Nat) = 1)
    | fn s' ks' b' ln' h1' h2' h3' =>
      exact absurd ((show cls _ = 3 from rfl).symm.trans (hcls.trans (show cls _ = 4 from rfl))) (by decide : ¬ (3 : Nat) = 4)
    | obj l' ln' h1' =>
      exact absurd ((show cls _ = 3 from rfl).symm.trans (hcls.trans (show cls _ = 5 from rfl))) (by decide : ¬ (3 : Nat) = 5)
    | mem s' a' ln' h1' h2' =>
      exact absurd ((show cls _ = 3 from rfl).symm.trans (hcls.trans (show cls _ = 9 from rfl))) (by decide : ¬ (3 : Nat) = 9)
    | idx a' b' ln' h1' h2' =>
      exact absurd hb' (by simp [baseB, Tree.op])
    | call a' r' ln' h1' h2' =>
      exact absurd hb' (by simp [baseB, Tree.op])
    | new a' r' ln' h1' h2' =>
      exact absurd ((show cls _ = 3 from rfl).symm.trans (hcls.trans (show cls _ = 6 from rfl))) (by decide : ¬ (3 : Nat) = 6)
    | bin k' s' a' b' ln' h1' h2' h3' =>
      exact absurd ((show cls _ = 3 from rfl).symm.trans (hcls.trans (show cls _ = 9 from cls_bin h1'))) (by decide : ¬ (3 : Nat) = 9)
    | not a' ln' h1' =>
      exact absurd ((show cls _ = 3 from rfl).symm.trans (hcls.trans (show cls _ = 7 from rfl))) (by decide : ¬ (3 : Nat) = 7)
    | neg a' ln' h1' =>
      exact absurd ((show cls _ = 3 from rfl).symm.trans (hcls.trans (show cls _ = 8 from rfl))) (by decide : ¬ (3 : Nat) = 8)
    | cond a' b' c' ln' h1' h2' h3' =>
      exact absurd ((show cls _ = 3 from rfl).symm.trans (hcls.trans (show cls _ = 9 from rfl))) (by decide : ¬ (3 : Nat) = 9)
  | con k ln h4 h9 =>
    cases heb with
    | name s' ln' hn' =>
      rw [tx_t1 hf' hk', tx_c hf hk h4 h9] at e
      obtain ⟨g1, g2⟩ := run_inj (con_word h4 h9).1 (name_part hn').1 hx hy e
      have g3 := (name_part hn').2.1
      rw [← g1, (con_word h4 h9).2.1] at g3
      cases g3
    | num n' ln' hn' =>
      exact absurd ((show cls _ = 1 from cls_con h4 h9).symm.trans (hcls.trans (show cls _ = 2 from rfl))) (by decide : ¬ (1 : Nat) = 2)
    | str s' ln' =>
      exact absurd ((show cls _ = 1 from cls_con h4 h9).symm.trans (hcls.trans (show cls _ = 3 from rfl))) (by decide : ¬ (1 : Nat) = 3)
    | con k' ln' h4' h9' =>
      rw [tx_c hf hk h4 h9, tx_c hf' hk' h4' h9'] at e
      obtain ⟨g1, g2⟩ := run_inj (con_word h4 h9).1 (con_word h4' h9').1 hx hy e
      have g3 := con_inj h4 h9 h4' h9' g1
      exact ⟨by rw [strip_node, strip_node, g3], g2⟩
    | fn s' ks' b' ln' h1' h2' h3' =>
      exact absurd ((show cls _ = 1 from cls_con h4 h9).symm.trans (hcls.trans (show cls _ = 4 from rfl))) (by decide : ¬ (1 : Nat) = 4)
    | obj l' ln' h1' =>
      exact absurd ((show cls _ = 1 from cls_con h4 h9).symm.trans (hcls.trans (show cls _ = 5 from rfl))) (by decide : ¬ (1 : Nat) = 5)
    | mem s' a' ln' h1' h2' =>
      exact absurd ((show cls _ = 1 from cls_con h4 h9).symm.trans (hcls.trans (show cls _ = 9 from rfl))) (by decide : ¬ (1 : Nat) = 9)
    | idx a' b' ln' h1' h2' =>
      exact absurd hb' (by simp [baseB, Tree.op])
    | call a' r' ln' h1' h2' =>
      exact absurd hb' (by simp [baseB, Tree.op])
    | new a' r' ln' h1' h2' =>
      exact absurd ((show cls _ = 1 from cls_con h4 h9).symm.trans (hcls.trans (show cls _ = 6 from rfl))) (by decide : ¬ (1 : Nat) = 6)
    | bin k' s' a' b' ln' h1' h2' h3' =>
      exact absurd ((show cls _ = 1 from cls_con h4 h9).symm.trans (hcls.trans (show cls _ = 9 from cls_bin h1'))) (by decide : ¬ (1 : Nat) = 9)
    | not a' ln' h1' =>
      exact absurd ((show cls _ = 1 from cls_con h4 h9).symm.trans (hcls.trans (show cls _ = 7 from rfl))) (by decide : ¬ (1 : Nat) = 7)
    | neg a' ln' h1' =>
      exact absurd ((show cls _ = 1 from cls_con h4 h9).symm.trans (hcls.trans (show cls _ = 8 from rfl))) (by decide : ¬ (1 : Nat) = 8)
    | cond a' b' c' ln' h1' h2' h3' =>
      exact absurd ((show cls _ = 1 from cls_con h4 h9).symm.trans (hcls.trans (show cls _ = 9 from rfl))) (by decide : ¬ (1 : Nat) = 9)
  | fn s ks b ln h1 h2 h3 =>
    cases heb with
    | name s' ln' hn' =>
      exact absurd ((show cls _ = 4 from rfl).symm.trans (hcls.trans (show cls _ = 1 from rfl))) (by decide : ¬ (4 : Nat) = 1)
    | num n' ln' hn' =>
      exact absurd ((show cls _ = 4 from rfl).symm.trans (hcls.trans (show cls _ = 2 from rfl))) (by decide : ¬ (4 : Nat) = 2)
    | str s' ln' =>
      exact absurd ((show cls _ = 4 from rfl).symm.trans (hcls.trans (show cls _ = 3 from rfl))) (by decide : ¬ (4 : Nat) = 3)
    | con k' ln' h4' h9' =>
      exact absurd ((show cls _ = 4 from rfl).symm.trans (hcls.trans (show cls _ = 1 from cls_con h4' h9'))) (by decide : ¬ (4 : Nat) = 1)
    | fn s' ks' b' ln' h1' h2' h3' =>
      rw [tx_t10 hf hk, tx_t10 hf' hk'] at e
      injection e with _ e
      have e := List.append_cancel_left e
      have hss : s.data.toList = s'.data.toList ∧ Lib.join (ks.map fun u => tx u i) [44, 32] ++ 41 :: 32 :: (tx b i ++ 41 :: x) = Lib.join (ks'.map fun u => tx u i) [44, 32] ++ 41 :: 32 :: (tx b' i ++ 41 :: y) := by
        by_cases h0 : s.data.toList = [] <;> by_cases h0' : s'.data.toList = []
        · rw [if_pos h0, if_pos h0'] at e
          injection e with _ e
          exact ⟨by rw [h0, h0'], e⟩
        · rw [if_pos h0, if_neg h0'] at e
          injection e with e _
          exact absurd e (by decide)
        · rw [if_neg h0, if_pos h0'] at e
          injection e with e _
          exact absurd e (by decide)
        · rw [if_neg h0, if_neg h0'] at e
          injection e with _ e
          have n1 := (h1.resolve_left h0)
          have n2 := (h1'.resolve_left h0')
          obtain ⟨g1, g2⟩ := run_inj (name_part n1).1 (name_part n2).1 (np_of (by simp)) (np_of (by simp)) e
          injection g2 with _ g2
          exact ⟨g1, g2⟩
      obtain ⟨hs, e⟩ := hss
      obtain ⟨g3, g4⟩ := list_inj (ih m (by omega)).1 (by omega) (show m' ≤ 100 by omega) h2 h2' e
      injection g4 with _ g4
      obtain ⟨g5, g6⟩ := (ih m (by omega)).2.1 h3 h3' (by omega) g4
      injection g6 with _ g6
      exact ⟨by rw [strip_node, strip_node, bytes_inj hs, List.map_append, List.map_append, g3, List.map_cons, List.map_cons, g5] <;> rfl, g6⟩
    | obj l' ln' h1' =>
      exact absurd ((show cls _ = 4 from rfl).symm.trans (hcls.trans (show cls _ = 5 from rfl))) (by decide : ¬ (4 : Nat) = 5)
    | mem s' a' ln' h1' h2' =>
      exact absurd ((show cls _ = 4 from rfl).symm.trans (hcls.trans (show cls _ = 9 from rfl))) (by decide : ¬ (4 : Nat) = 9)
    | idx a' b' ln' h1' h2' =>
      exact absurd hb' (by simp [baseB, Tree.op])
    | call a' r' ln' h1' h2' =>
      exact absurd hb' (by simp [baseB, Tree.op])
    | new a' r' ln' h1' h2' =>
      exact absurd ((show cls _ = 4 from rfl).symm.trans (hcls.trans (show cls _ = 6 from rfl))) (by decide : ¬ (4 : Nat) = 6)
    | bin k' s' a' b' ln' h1' h2' h3' =>
      exact absurd ((show cls _ = 4 from rfl).symm.trans (hcls.trans (show cls _ = 9 from cls_bin h1'))) (by decide : ¬ (4 : Nat) = 9)
    | not a' ln' h1' =>
      exact absurd ((show cls _ = 4 from rfl).symm.trans (hcls.trans (show cls _ = 7 from rfl))) (by decide : ¬ (4 : Nat) = 7)
    | neg a' ln' h1' =>
      exact absurd ((show cls _ = 4 from rfl).symm.trans (hcls.trans (show cls _ = 8 from rfl))) (by decide : ¬ (4 : Nat) = 8)
    | cond a' b' c' ln' h1' h2' h3' =>
      exact absurd ((show cls _ = 4 from rfl).symm.trans (hcls.trans (show cls _ = 9 from rfl))) (by decide : ¬ (4 : Nat) = 9)
  | obj l ln h1 =>
    cases heb with
    | name s' ln' hn' =>
      exact absurd ((show cls _ = 5 from rfl).symm.trans (hcls.trans (show cls _ = 1 from rfl))) (by decide : ¬ (5 : Nat) = 1)
    | num n' ln' hn' =>
      exact absurd ((show cls _ = 5 from rfl).symm.trans (hcls.trans (show cls _ = 2 from rfl))) (by decide : ¬ (5 : Nat) = 2)
    | str s' ln' =>
      exact absurd ((show cls _ = 5 from rfl).symm.trans (hcls.trans (show cls _ = 3 from rfl))) (by decide : ¬ (5 : Nat) = 3)
    | con k' ln' h4' h9' =>
      exact absurd ((show cls _ = 5 from rfl).symm.trans (hcls.trans (show cls _ = 1 from cls_con h4' h9'))) (by decide : ¬ (5 : Nat) = 1)
    | fn s' ks' b' ln' h1' h2' h3' =>
      exact absurd ((show cls _ = 5 from rfl).symm.trans (hcls.trans (show cls _ = 4 from rfl))) (by decide : ¬ (5 : Nat) = 4)
    | obj l' ln' h1' =>
      rw [tx_t11 hf hk, tx_t11 hf' hk'] at e
      injection e with _ e
      injection e with _ e
      have hhd : ∀ {n : Nat} {u : Tree}, n ≤ 100 → u.op = 12 ∧ fitsB n u = true → ∀ z, (tx u i ++ z).head? ≠ some 125 := fun {n u} hn hu z => by
        cases n with
        | zero => have := hu.2; simp [fitsB] at this
        | succ n =>
          obtain ⟨s1, a1, ln1, rfl, he1⟩ := pair_open hu.2 hu.1
          rw [tx_t12 hu.2 (by omega)]
          simp [quoteL]
      obtain ⟨g1, g2⟩ := join_inj (f := fun u => tx u i) (c0 := 125) (by decide) (fun u hu v hv {c d p q} hc hd e => by
        have f1 := (h1 u hu).2
        have f2 := (h1' v hv).2
        cases m with
        | zero => simp [fitsB] at f1
        | succ m =>
        cases m' with
        | zero => simp [fitsB] at f2
        | succ m' =>
        obtain ⟨s1, a1, ln1, rfl, he1⟩ := pair_open f1 (h1 u hu).1
        obtain ⟨s2, a2, ln2, rfl, he2⟩ := pair_open f2 (h1' v hv).1
        rw [tx_t12 f1 (by omega), tx_t12 f2 (by omega)] at e
        obtain ⟨g1, g2⟩ := quote_inj e
        injection g2 with _ g2
        injection g2 with _ g2
        obtain ⟨g3, g4⟩ := (ih m (by omega)).1 he1 he2 (by omega) (st_of (by rcases hc with h | h <;> simp [h])) (st_of (by rcases hd with h | h <;> simp [h])) g2
        exact ⟨by rw [strip_node, strip_node, bytes_inj g1, List.map_cons, List.map_cons, g3] <;> rfl, g4⟩)
        (fun u hu z => hhd (by omega) (h1 u hu) z) (fun u hu z => hhd (by omega) (h1' u hu) z) e
      injection g2 with _ g2
      exact ⟨by rw [strip_node, strip_node, g1], g2⟩
    | mem s' a' ln' h1' h2' =>
      exact absurd ((show cls _ = 5 from rfl).symm.trans (hcls.trans (show cls _ = 9 from rfl))) (by decide : ¬ (5 : Nat) = 9)
    | idx a' b' ln' h1' h2' =>
      exact absurd hb' (by simp [baseB, Tree.op])
    | call a' r' ln' h1' h2' =>
      exact absurd hb' (by simp [baseB, Tree.op])
    | new a' r' ln' h1' h2' =>
      exact absurd ((show cls _ = 5 from rfl).symm.trans (hcls.trans (show cls _ = 6 from rfl))) (by decide : ¬ (5 : Nat) = 6)
    | bin k' s' a' b' ln' h1' h2' h3' =>
      exact absurd ((show cls _ = 5 from rfl).symm.trans (hcls.trans (show cls _ = 9 from cls_bin h1'))) (by decide : ¬ (5 : Nat) = 9)
    | not a' ln' h1' =>
      exact absurd ((show cls _ = 5 from rfl).symm.trans (hcls.trans (show cls _ = 7 from rfl))) (by decide : ¬ (5 : Nat) = 7)
    | neg a' ln' h1' =>
      exact absurd ((show cls _ = 5 from rfl).symm.trans (hcls.trans (show cls _ = 8 from rfl))) (by decide : ¬ (5 : Nat) = 8)
    | cond a' b' c' ln' h1' h2' h3' =>
      exact absurd ((show cls _ = 5 from rfl).symm.trans (hcls.trans (show cls _ = 9 from rfl))) (by decide : ¬ (5 : Nat) = 9)
  | mem s a ln h1 h2 =>
    cases heb with
    | name s' ln' hn' =>
      exact absurd ((show cls _ = 9 from rfl).symm.trans (hcls.trans (show cls _ = 1 from rfl))) (by decide : ¬ (9 : Nat) = 1)
    | num n' ln' hn' =>
      exact absurd ((show cls _ = 9 from rfl).symm.trans (hcls.trans (show cls _ = 2 from rfl))) (by decide : ¬ (9 : Nat) = 2)
    | str s' ln' =>
      exact absurd ((show cls _ = 9 from rfl).symm.trans (hcls.trans (show cls _ = 3 from rfl))) (by decide : ¬ (9 : Nat) = 3)
    | con k' ln' h4' h9' =>
      exact absurd ((show cls _ = 9 from rfl).symm.trans (hcls.trans (show cls _ = 1 from cls_con h4' h9'))) (by decide : ¬ (9 : Nat) = 1)
    | fn s' ks' b' ln' h1' h2' h3' =>
      exact absurd ((show cls _ = 9 from rfl).symm.trans (hcls.trans (show cls _ = 4 from rfl))) (by decide : ¬ (9 : Nat) = 4)
    | obj l' ln' h1' =>
      exact absurd ((show cls _ = 9 from rfl).symm.trans (hcls.trans (show cls _ = 5 from rfl))) (by decide : ¬ (9 : Nat) = 5)
    | mem s' a' ln' h1' h2' =>
      have ha : a.op = 2 := by simpa [baseB, Tree.op, Tree.l] using hb
      have ha' : a'.op = 2 := by simpa [baseB, Tree.op, Tree.l] using hb'
      rw [tx_t13n hf hk ha, tx_t13n hf' hk' ha'] at e
      injection e with _ e
      obtain ⟨g1, g2⟩ := (ih m (by omega)).1 h2 h2' (by omega) (st_of (by simp)) (st_of (by simp)) e
      injection g2 with _ g2
      injection g2 with _ g2
      obtain ⟨g3, g4⟩ := run_inj h1 h1' hx hy g2
      exact ⟨by rw [strip_node, strip_node, bytes_inj g3, List.map_cons, List.map_cons, g1] <;> rfl, g4⟩
    | idx a' b' ln' h1' h2' =>
      exact absurd hb' (by simp [baseB, Tree.op])
    | call a' r' ln' h1' h2' =>
      exact absurd hb' (by simp [baseB, Tree.op])
    | new a' r' ln' h1' h2' =>
      exact absurd ((show cls _ = 9 from rfl).symm.trans (hcls.trans (show cls _ = 6 from rfl))) (by decide : ¬ (9 : Nat) = 6)
    | bin k' s' a' b' ln' h1' h2' h3' =>
      have ha : a.op = 2 := by simpa [baseB, Tree.op, Tree.l] using hb
      rw [tx_t13n hf hk ha, tx_b hf' hk' h1'] at e
      injection e with _ e
      obtain ⟨g1, g2⟩ := (ih m (by omega)).1 h2 h2' (by omega) (st_of (by simp)) (st_of (by simp)) e
      injection g2 with g2 _
      exact absurd g2 (by decide)
    | not a' ln' h1' =>
      exact absurd ((show cls _ = 9 from rfl).symm.trans (hcls.trans (show cls _ = 7 from rfl))) (by decide : ¬ (9 : Nat) = 7)
    | neg a' ln' h1' =>
      exact absurd ((show cls _ = 9 from rfl).symm.trans (hcls.trans (show cls _ = 8 from rfl))) (by decide : ¬ (9 : Nat) = 8)
    | cond a' b' c' ln' h1' h2' h3' =>
      have ha : a.op = 2 := by simpa [baseB, Tree.op, Tree.l] using hb
      rw [tx_t13n hf hk ha, tx_t23 hf' hk'] at e
      injection e with _ e
      obtain ⟨g1, g2⟩ := (ih m (by omega)).1 h2 h1' (by omega) (st_of (by simp)) (st_of (by simp)) e
      injection g2 with g2 _
      exact absurd g2 (by decide)
  | idx a b ln h1 h2 =>
    exact absurd hb (by simp [baseB, Tree.op])
  | call a r ln h1 h2 =>
    exact absurd hb (by simp [baseB, Tree.op])
  | new a r ln h1 h2 =>
    cases heb with
    | name s' ln' hn' =>
      exact absurd ((show cls _ = 6 from rfl).symm.trans (hcls.trans (show cls _ = 1 from rfl))) (by decide : ¬ (6 : Nat) = 1)
    | num n' ln' hn' =>
      exact absurd ((show cls _ = 6 from rfl).symm.trans (hcls.trans (show cls _ = 2 from rfl))) (by decide : ¬ (6 : Nat) = 2)
    | str s' ln' =>
      exact absurd ((show cls _ = 6 from rfl).symm.trans (hcls.trans (show cls _ = 3 from rfl))) (by decide : ¬ (6 : Nat) = 3)
    | con k' ln' h4' h9' =>
      exact absurd ((show cls _ = 6 from rfl).symm.trans (hcls.trans (show cls _ = 1 from cls_con h4' h9'))) (by decide : ¬ (6 : Nat) = 1)
    | fn s' ks' b' ln' h1' h2' h3' =>
      exact absurd ((show cls _ = 6 from rfl).symm.trans (hcls.trans (show cls _ = 4 from rfl))) (by decide : ¬ (6 : Nat) = 4)
    | obj l' ln' h1' =>
      exact absurd ((show cls _ = 6 from rfl).symm.trans (hcls.trans (show cls _ = 5 from rfl))) (by decide : ¬ (6 : Nat) = 5)
    | mem s' a' ln' h1' h2' =>
      exact absurd ((show cls _ = 6 from rfl).symm.trans (hcls.trans (show cls _ = 9 from rfl))) (by decide : ¬ (6 : Nat) = 9)
    | idx a' b' ln' h1' h2' =>
      exact absurd hb' (by simp [baseB, Tree.op])
    | call a' r' ln' h1' h2' =>
      exact absurd hb' (by simp [baseB, Tree.op])
    | new a' r' ln' h1' h2' =>
      by_cases ha : a.op = 1 <;> by_cases ha' : a'.op = 1
      · rw [tx_t16i hf hk ha, tx_t16i hf' hk' ha'] at e
        injection e with _ e
        have e := List.append_cancel_left e
        injection e with _ e
        obtain ⟨g1, g2⟩ := name_inj h1 h1' (by omega) (by omega) ha ha' (np_of (by simp)) (np_of (by simp)) e
        injection g2 with _ e
        obtain ⟨g3, g4⟩ := list_inj (ih m (by omega)).1 (by omega) (show m' ≤ 100 by omega) h2 h2' e
        injection g4 with _ g4
        exact ⟨by rw [strip_node, strip_node, List.map_cons, List.map_cons, g1, g3], g4⟩
      · rw [tx_t16i hf hk ha, tx_t16 hf' hk' ha'] at e
        injection e with _ e
        have e := List.append_cancel_left e
        injection e with _ e
        exact (name_head h1 (by omega) ha e).elim
      · rw [tx_t16 hf hk ha, tx_t16i hf' hk' ha'] at e
        injection e with _ e
        have e := List.append_cancel_left e
        injection e with _ e
        exact (name_head h1' (by omega) ha' e.symm).elim
      · rw [tx_t16 hf hk ha, tx_t16 hf' hk' ha'] at e
        injection e with _ e
        have e := List.append_cancel_left e
        injection e with _ e
        injection e with _ e
        obtain ⟨g1, g2⟩ := (ih m (by omega)).1 h1 h1' (by omega) (st_of (by simp)) (st_of (by simp)) e
        injection g2 with _ g2
        injection g2 with _ e
        obtain ⟨g3, g4⟩ := list_inj (ih m (by omega)).1 (by omega) (show m' ≤ 100 by omega) h2 h2' e
        injection g4 with _ g4
        exact ⟨by rw [strip_node, strip_node, List.map_cons, List.map_cons, g1, g3], g4⟩
    | bin k' s' a' b' ln' h1' h2' h3' =>
      exact absurd ((show cls _ = 6 from rfl).symm.trans (hcls.trans (show cls _ = 9 from cls_bin h1'))) (by decide : ¬ (6 : Nat) = 9)
    | not a' ln' h1' =>
      exact absurd ((show cls _ = 6 from rfl).symm.trans (hcls.trans (show cls _ = 7 from rfl))) (by decide : ¬ (6 : Nat) = 7)
    | neg a' ln' h1' =>
      exact absurd ((show cls _ = 6 from rfl).symm.trans (hcls.trans (show cls _ = 8 from rfl))) (by decide : ¬ (6 : Nat) = 8)
    | cond a' b' c' ln' h1' h2' h3' =>
      exact absurd ((show cls _ = 6 from rfl).symm.trans (hcls.trans (show cls _ = 9 from rfl))) (by decide : ¬ (6 : Nat) = 9)
  | bin k s a b ln h1 h2 h3 =>
    cases heb with
    | name s' ln' hn' =>
      exact absurd ((show cls _ = 9 from cls_bin h1).symm.trans (hcls.trans (show cls _ = 1 from rfl))) (by decide : ¬ (9 : Nat) = 1)
    | num n' ln' hn' =>
      exact absurd ((show cls _ = 9 from cls_bin h1).symm.trans (hcls.trans (show cls _ = 2 from rfl))) (by decide : ¬ (9 : Nat) = 2)
    | str s' ln' =>
      exact absurd ((show cls _ = 9 from cls_bin h1).symm.trans (hcls.trans (show cls _ = 3 from rfl))) (by decide : ¬ (9 : Nat) = 3)
    | con k' ln' h4' h9' =>
      exact absurd ((show cls _ = 9 from cls_bin h1).symm.trans (hcls.trans (show cls _ = 1 from cls_con h4' h9'))) (by decide : ¬ (9 : Nat) = 1)
    | fn s' ks' b' ln' h1' h2' h3' =>
      exact absurd ((show cls _ = 9 from cls_bin h1).symm.trans (hcls.trans (show cls _ = 4 from rfl))) (by decide : ¬ (9 : Nat) = 4)
    | obj l' ln' h1' =>
      exact absurd ((show cls _ = 9 from cls_bin h1).symm.trans (hcls.trans (show cls _ = 5 from rfl))) (by decide : ¬ (9 : Nat) = 5)
    | mem s' a' ln' h1' h2' =>
      have ha' : a'.op = 2 := by simpa [baseB, Tree.op, Tree.l] using hb'
      rw [tx_b hf hk h1, tx_t13n hf' hk' ha'] at e
      injection e with _ e
      obtain ⟨g1, g2⟩ := (ih m (by omega)).1 h2 h2' (by omega) (st_of (by simp)) (st_of (by simp)) e
      injection g2 with g2 _
      exact absurd g2 (by decide)
    | idx a' b' ln' h1' h2' =>
      exact absurd hb' (by simp [baseB, Tree.op])
    | call a' r' ln' h1' h2' =>
      exact absurd hb' (by simp [baseB, Tree.op])
    | new a' r' ln' h1' h2' =>
      exact absurd ((show cls _ = 9 from cls_bin h1).symm.trans (hcls.trans (show cls _ = 6 from rfl))) (by decide : ¬ (9 : Nat) = 6)
    | bin k' s' a' b' ln' h1' h2' h3' =>
      rw [tx_b hf hk h1, tx_b hf' hk' h1'] at e
      injection e with _ e
      obtain ⟨g1, g2⟩ := (ih m (by omega)).1 h2 h2' (by omega) (st_of (by simp)) (st_of (by simp)) e
      injection g2 with _ g2
      obtain ⟨g3, e⟩ := upto_inj (sign_ok h1).1 (sign_ok h1').1 g2
      obtain ⟨g4, g5⟩ := (ih m (by omega)).1 h3 h3' (by omega) (st_of (by simp)) (st_of (by simp)) e
      injection g5 with _ g5
      obtain ⟨g6, g7⟩ := sign_inj h1 h1' g3
      exact ⟨by rw [strip_node, strip_node, g6, g7, List.map_cons, List.map_cons, List.map_cons, List.map_cons, g1, g4] <;> rfl, g5⟩
    | not a' ln' h1' =>
      exact absurd ((show cls _ = 9 from cls_bin h1).symm.trans (hcls.trans (show cls _ = 7 from rfl))) (by decide : ¬ (9 : Nat) = 7)
    | neg a' ln' h1' =>
      exact absurd ((show cls _ = 9 from cls_bin h1).symm.trans (hcls.trans (show cls _ = 8 from rfl))) (by decide : ¬ (9 : Nat) = 8)
    | cond a' b' c' ln' h1' h2' h3' =>
      rw [tx_b hf hk h1, tx_t23 hf' hk'] at e
      injection e with _ e
      obtain ⟨g1, g2⟩ := (ih m (by omega)).1 h2 h1' (by omega) (st_of (by simp)) (st_of (by simp)) e
      injection g2 with _ g2
      obtain ⟨g3, _⟩ := upto_inj (v := [63]) (sign_ok h1).1 (by decide) g2
      exact absurd g3 (sign_ok h1).2
  | not a ln h1 =>
    cases heb with
    | name s' ln' hn' =>
      exact absurd ((show cls _ = 7 from rfl).symm.trans (hcls.trans (show cls _ = 1 from rfl))) (by decide : ¬ (7 : Nat) = 1)
    | num n' ln' hn' =>
      exact absurd ((show cls _ = 7 from rfl).symm.trans (hcls.trans (show cls _ = 2 from rfl))) (by decide : ¬ (7 : Nat) = 2)
    | str s' ln' =>
      exact absurd ((show cls _ = 7 from rfl).symm.trans (hcls.trans (show cls _ = 3 from rfl))) (by decide : ¬ (7 : Nat) = 3)
    | con k' ln' h4' h9' =>
      exact absurd ((show cls _ = 7 from rfl).symm.trans (hcls.trans (show cls _ = 1 from cls_con h4' h9'))) (by decide : ¬ (7 : Nat) = 1)
    | fn s' ks' b' ln' h1' h2' h3' =>
      exact absurd ((show cls _ = 7 from rfl).symm.trans (hcls.trans (show cls _ = 4 from rfl))) (by decide : ¬ (7 : Nat) = 4)
    | obj l' ln' h1' =>
      exact absurd ((show cls _ = 7 from rfl).symm.trans (hcls.trans (show cls _ = 5 from rfl))) (by decide : ¬ (7 : Nat) = 5)
    | mem s' a' ln' h1' h2' =>
      exact absurd ((show cls _ = 7 from rfl).symm.trans (hcls.trans (show cls _ = 9 from rfl))) (by decide : ¬ (7 : Nat) = 9)
    | idx a' b' ln' h1' h2' =>
      exact absurd hb' (by simp [baseB, Tree.op])
    | call a' r' ln' h1' h2' =>
      exact absurd hb' (by simp [baseB, Tree.op])
    | new a' r' ln' h1' h2' =>
      exact absurd ((show cls _ = 7 from rfl).symm.trans (hcls.trans (show cls _ = 6 from rfl))) (by decide : ¬ (7 : Nat) = 6)
    | bin k' s' a' b' ln' h1' h2' h3' =>
      exact absurd ((show cls _ = 7 from rfl).symm.trans (hcls.trans (show cls _ = 9 from cls_bin h1'))) (by decide : ¬ (7 : Nat) = 9)
    | not a' ln' h1' =>
      rw [tx_t19 hf hk, tx_t19 hf' hk'] at e
      injection e with _ e
      injection e with _ e
      obtain ⟨g1, g2⟩ := (ih m (by omega)).1 h1 h1' (by omega) (st_of (by simp)) (st_of (by simp)) e
      injection g2 with _ g2
      exact ⟨by rw [strip_node, strip_node, List.map_cons, List.map_cons, g1] <;> rfl, g2⟩
    | neg a' ln' h1' =>
      exact absurd ((show cls _ = 7 from rfl).symm.trans (hcls.trans (show cls _ = 8 from rfl))) (by decide : ¬ (7 : Nat) = 8)
    | cond a' b' c' ln' h1' h2' h3' =>
      exact absurd ((show cls _ = 7 from rfl).symm.trans (hcls.trans (show cls _ = 9 from rfl))) (by decide : ¬ (7 : Nat) = 9)
  | neg a ln h1 =>
    cases heb with
    | name s' ln' hn' =>
      exact absurd ((show cls _ = 8 from rfl).symm.trans (hcls.trans (show cls _ = 1 from rfl))) (by decide : ¬ (8 : Nat) = 1)
    | num n' ln' hn' =>
      exact absurd ((show cls _ = 8 from rfl).symm.trans (hcls.trans (show cls _ = 2 from rfl))) (by decide : ¬ (8 : Nat) = 2)
    | str s' ln' =>
      exact absurd ((show cls _ = 8 from rfl).symm.trans (hcls.trans (show cls _ = 3 from rfl))) (by decide : ¬ (8 : Nat) = 3)
    | con k' ln' h4' h9' =>
      exact absurd ((show cls _ = 8 from rfl).symm.trans (hcls.trans (show cls _ = 1 from cls_con h4' h9'))) (by decide : ¬ (8 : Nat) = 1)
    | fn s' ks' b' ln' h1' h2' h3' =>
      exact absurd ((show cls _ = 8 from rfl).symm.trans (hcls.trans (show cls _ = 4 from rfl))) (by decide : ¬ (8 : Nat) = 4)
    | obj l' ln' h1' =>
      exact absurd ((show cls _ = 8 from rfl).symm.trans (hcls.trans (show cls _ = 5 from rfl))) (by decide : ¬ (8 : Nat) = 5)
    | mem s' a' ln' h1' h2' =>
      exact absurd ((show cls _ = 8 from rfl).symm.trans (hcls.trans (show cls _ = 9 from rfl))) (by decide : ¬ (8 : Nat) = 9)
    | idx a' b' ln' h1' h2' =>
      exact absurd hb' (by simp [baseB, Tree.op])
    | call a' r' ln' h1' h2' =>
      exact absurd hb' (by simp [baseB, Tree.op])
    | new a' r' ln' h1' h2' =>
      exact absurd ((show cls _ = 8 from rfl).symm.trans (hcls.trans (show cls _ = 6 from rfl))) (by decide : ¬ (8 : Nat) = 6)
    | bin k' s' a' b' ln' h1' h2' h3' =>
      exact absurd ((show cls _ = 8 from rfl).symm.trans (hcls.trans (show cls _ = 9 from cls_bin h1'))) (by decide : ¬ (8 : Nat) = 9)
    | not a' ln' h1' =>
      exact absurd ((show cls _ = 8 from rfl).symm.trans (hcls.trans (show cls _ = 7 from rfl))) (by decide : ¬ (8 : Nat) = 7)
    | neg a' ln' h1' =>
      rw [tx_t20 hf hk, tx_t20 hf' hk'] at e
      injection e with _ e
      injection e with _ e
      obtain ⟨g1, g2⟩ := (ih m (by omega)).1 h1 h1' (by omega) (st_of (by simp)) (st_of (by simp)) e
      injection g2 with _ g2
      exact ⟨by rw [strip_node, strip_node, List.map_cons, List.map_cons, g1] <;> rfl, g2⟩
    | cond a' b' c' ln' h1' h2' h3' =>
      exact absurd ((show cls _ = 8 from rfl).symm.trans (hcls.trans (show cls _ = 9 from rfl))) (by decide : ¬ (8 : Nat) = 9)
  | cond a b c ln h1 h2 h3 =>
    cases heb with
    | name s' ln' hn' =>
      exact absurd ((show cls _ = 9 from rfl).symm.trans (hcls.trans (show cls _ = 1 from rfl))) (by decide : ¬ (9 : Nat) = 1)
    | num n' ln' hn' =>
      exact absurd ((show cls _ = 9 from rfl).symm.trans (hcls.trans (show cls _ = 2 from rfl))) (by decide : ¬ (9 : Nat) = 2)
    | str s' ln' =>
      exact absurd ((show cls _ = 9 from rfl).symm.trans (hcls.trans (show cls _ = 3 from rfl))) (by decide : ¬ (9 : Nat) = 3)
    | con k' ln' h4' h9' =>
      exact absurd ((show cls _ = 9 from rfl).symm.trans (hcls.trans (show cls _ = 1 from cls_con h4' h9'))) (by decide : ¬ (9 : Nat) = 1)
    | fn s' ks' b' ln' h1' h2' h3' =>
      exact absurd ((show cls _ = 9 from rfl).symm.trans (hcls.trans (show cls _ = 4 from rfl))) (by decide : ¬ (9 : Nat) = 4)
    | obj l' ln' h1' =>
      exact absurd ((show cls _ = 9 from rfl).symm.trans (hcls.trans (show cls _ = 5 from rfl))) (by decide : ¬ (9 : Nat) = 5)
    | mem s' a' ln' h1' h2' =>
      have ha' : a'.op = 2 := by simpa [baseB, Tree.op, Tree.l] using hb'
      rw [tx_t23 hf hk, tx_t13n hf' hk' ha'] at e
      injection e with _ e
      obtain ⟨g1, g2⟩ := (ih m (by omega)).1 h1 h2' (by omega) (st_of (by simp)) (st_of (by simp)) e
      injection g2 with g2 _
      exact absurd g2 (by decide)
    | idx a' b' ln' h1' h2' =>
      exact absurd hb' (by simp [baseB, Tree.op])
    | call a' r' ln' h1' h2' =>
      exact absurd hb' (by simp [baseB, Tree.op])
    | new a' r' ln' h1' h2' =>
      exact absurd ((show cls _ = 9 from rfl).symm.trans (hcls.trans (show cls _ = 6 from rfl))) (by decide : ¬ (9 : Nat) = 6)
    | bin k' s' a' b' ln' h1' h2' h3' =>
      rw [tx_t23 hf hk, tx_b hf' hk' h1'] at e
      injection e with _ e
      obtain ⟨g1, g2⟩ := (ih m (by omega)).1 h1 h2' (by omega) (st_of (by simp)) (st_of (by simp)) e
      injection g2 with _ g2
      obtain ⟨g3, _⟩ := upto_inj (w := [63]) (by decide) (sign_ok h1').1 g2
      exact absurd g3.symm (sign_ok h1').2
    | not a' ln' h1' =>
      exact absurd ((show cls _ = 9 from rfl).symm.trans (hcls.trans (show cls _ = 7 from rfl))) (by decide : ¬ (9 : Nat) = 7)
    | neg a' ln' h1' =>
      exact absurd ((show cls _ = 9 from rfl).symm.trans (hcls.trans (show cls _ = 8 from rfl))) (by decide : ¬ (9 : Nat) = 8)
    | cond a' b' c' ln' h1' h2' h3' =>
      rw [tx_t23 hf hk, tx_t23 hf' hk'] at e
      injection e with _ e
      obtain ⟨g1, g2⟩ := (ih m (by omega)).1 h1 h1' (by omega) (st_of (by simp)) (st_of (by simp)) e
      injection g2 with _ g2
      injection g2 with _ g2
      injection g2 with _ e
      obtain ⟨g3, g4⟩ := (ih m (by omega)).1 h2 h2' (by omega) (st_of (by simp)) (st_of (by simp)) e
      injection g4 with _ g4
      injection g4 with _ g4
      injection g4 with _ e
      obtain ⟨g5, g6⟩ := (ih m (by omega)).1 h3 h3' (by omega) (st_of (by simp)) (st_of (by simp)) e
      injection g6 with _ g6
      exact ⟨by rw [strip_node, strip_node, List.map_cons, List.map_cons, List.map_cons, List.map_cons, List.map_cons, List.map_cons, g1, g3, g5] <;> rfl, g6⟩
theorem expr_inj {k : Nat} (hk : k ≤ 100) (ih : ∀ m, m < k → PE m ∧ PB m ∧ PS m) : PE k := by
  intro h' a b i x y ha hb hh hx hy e
  obtain ⟨a0, its, m, h1, h2, h3, h4, h5, h6⟩ := spine_of k ha hk
  obtain ⟨b0, its', m', g1, g2, g3, g4, g5, g6⟩ := spine_of h' hb hh
  rw [h5, g5] at e
  obtain ⟨q1, q2⟩ := base_inj (fun n hn => ih n (by omega)) (by omega) (by omega) h2 g2 h3 g3 (flat_np h4 hx i) (flat_np g4 hy i) e
  obtain ⟨q3, q4⟩ := items_inj (fun n hn => (ih n hn).1) hk hh h4 g4 hx hy q2
  exact ⟨by rw [h6, g6, q1, q3], q4⟩
theorem block_inj {k : Nat} (hk : k ≤ 100) (ih : ∀ m, m < k → PE m ∧ PB m ∧ PS m) : PB k := by
  intro h' a b i x y ha hb hh e
  cases k with
  | zero => have := ha.1; simp [fitsB] at this
  | succ m =>
  cases h' with
  | zero => have := hb.1; simp [fitsB] at this
  | succ m' =>
  obtain ⟨l, ln, rfl, hl⟩ := block_open ha
  obtain ⟨l', ln', rfl, hl'⟩ := block_open hb
  rw [tx_s32 ha.1 hk, tx_s32 hb.1 hh] at e
  injection e with _ e
  injection e with _ e
  obtain ⟨g1, g2⟩ := lines_inj (R := tx) (fun u hu v hv {p q} e => (ih m (by omega)).2.2 (hl u hu) (hl' v hv) (by omega) e) (fun v hv z e => by
    rw [List.append_assoc] at e
    have e := List.append_cancel_left e
    injection e with e _
    exact absurd e (by decide)) (fun u hu z e => by
    rw [List.append_assoc] at e
    have e := List.append_cancel_left e
    injection e with e _
    exact absurd e (by decide)) e
  have g2 := List.append_cancel_left g2
  injection g2 with _ g2
  exact ⟨by rw [strip_node, strip_node, g1], g2⟩

def tagW (w : List UInt8) : Nat := if w = wV then 30 else if w = wI then 33 else if w = wW then 34 else if w = wO then 35 else if w = wR then 36 else if w = wT then 37 else if w = wY then 38 else if w = wB then 39 else if w = wC then 40 else if w = runF then 41 else 31
def tagS (z : List UInt8) : Nat := if z.head? = some 123 then 32 else tagW (z.takeWhile partB8)
theorem tagS_wV {z : List UInt8} (hz : np z) : tagS (wV ++ z) = 30 := by
  unfold tagS
  rw [run_of wV_word.1 hz]
  rfl
theorem tagS_wI {z : List UInt8} (hz : np z) : tagS (wI ++ z) = 33 := by
  unfold tagS
  rw [run_of wI_word.1 hz]
  rfl
theorem tagS_wW {z : List UInt8} (hz : np z) : tagS (wW ++ z) = 34 := by
  unfold tagS
  rw [run_of wW_word.1 hz]
  rfl
theorem tagS_wO {z : List UInt8} (hz : np z) : tagS (wO ++ z) = 35 := by
  unfold tagS
  rw [run_of wO_word.1 hz]
  rfl
theorem tagS_wR {z : List UInt8} (hz : np z) : tagS (wR ++ z) = 36 := by
  unfold tagS
  rw [run_of wR_word.1 hz]
  rfl
theorem tagS_wT {z : List UInt8} (hz : np z) : tagS (wT ++ z) = 37 := by
  unfold tagS
  rw [run_of wT_word.1 hz]
  rfl
theorem tagS_wY {z : List UInt8} (hz : np z) : tagS (wY ++ z) = 38 := by
  unfold tagS
  rw [run_of wY_word.1 hz]
  rfl
theorem tagS_wB {z : List UInt8} (hz : np z) : tagS (wB ++ z) = 39 := by
  unfold tagS
  rw [run_of wB_word.1 hz]
  rfl
theorem tagS_wC {z : List UInt8} (hz : np z) : tagS (wC ++ z) = 40 := by
  unfold tagS
  rw [run_of wC_word.1 hz]
  rfl
theorem tagS_runF {z : List UInt8} (hz : np z) : tagS (runF ++ z) = 41 := by
  unfold tagS
  rw [run_of runF_word.1 hz]
  rfl
theorem tagS_expr {h : Nat} {a : Tree} {i z : List UInt8} (ha : EF h a) (hh : h ≤ 100) (hz : np z) : tagS (tx a i ++ z) = 31 := by
  obtain ⟨h1, h2⟩ := head_expr h ha hh hz (i := i)
  unfold tagS
  rw [if_neg (h1.ne (by decide) (by decide) (by decide) (by decide))]
  unfold tagW
  rw [if_neg h2.wVn, if_neg h2.wIn, if_neg h2.wWn, if_neg h2.wOn, if_neg h2.wRn, if_neg h2.wTn, if_neg h2.wYn, if_neg h2.wBn, if_neg h2.wCn, if_neg h2.runFn]
def clsS (t : Tree) : Nat := t.op.toNat
theorem tag_stmt {h : Nat} {t : Tree} {i x : List UInt8} (ht : SF (h + 1) t) (hh : h + 1 ≤ 100) : tagS (tx t i ++ 10 :: x) = clsS t := by
  have hf := ht.1
  cases sk_of ht.1 ht.2 with
  | v0 s ln h1 => rw [tx_s30n hf hh]; exact tagS_wV (np_of (by simp))
  | v1 s a ln h1 h2 => rw [tx_s30 hf hh]; exact tagS_wV (np_of (by simp))
  | ex a ln h1 => rw [tx_s31 hf hh]; exact tagS_expr h1 (by omega) (np_of (by simp))
  | blk l ln h1 => rw [tx_s32 hf hh]; exact rfl
  | i2 a b ln h1 h2 => rw [tx_s33 hf hh]; exact tagS_wI (np_of (by simp))
  | i3 a b c ln h1 h2 h3 => rw [tx_s33e hf hh]; exact tagS_wI (np_of (by simp))
  | wh a b ln h1 h2 => rw [tx_s34 hf hh]; exact tagS_wW (np_of (by simp))
  | fo s a b ln h1 h2 h3 => rw [tx_s35 hf hh]; exact tagS_wO (np_of (by simp))
  | r0 ln => rw [tx_s36n hf hh]; exact tagS_wR (np_of (by simp))
  | r1 a ln h1 => rw [tx_s36 hf hh]; exact tagS_wR (np_of (by simp))
  | th a ln h1 => rw [tx_s37 hf hh]; exact tagS_wT (np_of (by simp))
  | tr s a b ln h1 h2 h3 => rw [tx_s38 hf hh]; exact tagS_wY (np_of (by simp))
  | br ln => rw [tx_s39 hf hh]; exact tagS_wB (np_of (by simp))
  | co ln => rw [tx_s40 hf hh]; exact tagS_wC (np_of (by simp))
  | fn s ks b ln h1 h2 h3 => rw [tx_s41 hf hh]; exact tagS_runF (np_of (by simp))

set_option maxHeartbeats 4000000 in
theorem stmt_inj {k : Nat} (hk : k ≤ 100) (ih : ∀ m, m < k → PE m ∧ PB m ∧ PS m) (pb : PB k) : PS k := by
  intro h' a b i x y ha hb0 hk' e
  cases k with
  | zero => have := ha.1; simp [fitsB] at this
  | succ m =>
  cases h' with
  | zero => have := hb0.1; simp [fitsB] at this
  | succ m' =>
  have hf := ha.1
  have hf' := hb0.1
  have hcls : clsS a = clsS b := by rw [← tag_stmt ha hk (i := i) (x := x), ← tag_stmt hb0 hk' (i := i) (x := y), e]
  have hea := sk_of ha.1 ha.2
  have heb := sk_of hb0.1 hb0.2
  clear ha hb0
  cases hea with
  | v0 s ln h1 =>
    cases heb with
    | v0 s' ln' h1' =>
      rw [tx_s30n hf hk, tx_s30n hf' hk'] at e
      have e := List.append_cancel_left e
      injection e with _ e
      obtain ⟨g1, e⟩ := run_inj (name_part h1).1 (name_part h1').1 (np_of (by simp)) (np_of (by simp)) e
      injection e with _ e
      injection e with _ e
      exact ⟨by rw [strip_node, strip_node, bytes_inj g1], e⟩
    | v1 s' a' ln' h1' h2' =>
      rw [tx_s30n hf hk, tx_s30 hf' hk'] at e
      have e := List.append_cancel_left e
      injection e with _ e
      obtain ⟨g1, e⟩ := run_inj (name_part h1).1 (name_part h1').1 (np_of (by simp)) (np_of (by simp)) e
      injection e with e _
      exact absurd e (by decide)
    | ex a' ln' h1' =>
      exact absurd (show (30 : Nat) = 31 from hcls) (by decide)
    | blk l' ln' h1' =>
      exact absurd (show (30 : Nat) = 32 from hcls) (by decide)
    | i2 a' b' ln' h1' h2' =>
      exact absurd (show (30 : Nat) = 33 from hcls) (by decide)
    | i3 a' b' c' ln' h1' h2' h3' =>
      exact absurd (show (30 : Nat) = 33 from hcls) (by decide)
    | wh a' b' ln' h1' h2' =>
      exact absurd (show (30 : Nat) = 34 from hcls) (by decide)
    | fo s' a' b' ln' h1' h2' h3' =>
      exact absurd (show (30 : Nat) = 35 from hcls) (by decide)
    | r0 ln' =>
      exact absurd (show (30 : Nat) = 36 from hcls) (by decide)
    | r1 a' ln' h1' =>
      exact absurd (show (30 : Nat) = 36 from hcls) (by decide)
    | th a' ln' h1' =>
      exact absurd (show (30 : Nat) = 37 from hcls) (by decide)
    | tr s' a' b' ln' h1' h2' h3' =>
      exact absurd (show (30 : Nat) = 38 from hcls) (by decide)
    | br ln' =>
      exact absurd (show (30 : Nat) = 39 from hcls) (by decide)
    | co ln' =>
      exact absurd (show (30 : Nat) = 40 from hcls) (by decide)
    | fn s' ks' b' ln' h1' h2' h3' =>
      exact absurd (show (30 : Nat) = 41 from hcls) (by decide)
  | v1 s a ln h1 h2 =>
    cases heb with
    | v0 s' ln' h1' =>
      rw [tx_s30 hf hk, tx_s30n hf' hk'] at e
      have e := List.append_cancel_left e
      injection e with _ e
      obtain ⟨g1, e⟩ := run_inj (name_part h1).1 (name_part h1').1 (np_of (by simp)) (np_of (by simp)) e
      injection e with e _
      exact absurd e (by decide)
    | v1 s' a' ln' h1' h2' =>
      rw [tx_s30 hf hk, tx_s30 hf' hk'] at e
      have e := List.append_cancel_left e
      injection e with _ e
      obtain ⟨g1, e⟩ := run_inj (name_part h1).1 (name_part h1').1 (np_of (by simp)) (np_of (by simp)) e
      injection e with _ e
      injection e with _ e
      injection e with _ e
      obtain ⟨g2, e⟩ := (ih m (by omega)).1 h2 h2' (by omega) (st_of (by simp)) (st_of (by simp)) e
      injection e with _ e
      injection e with _ e
      exact ⟨by rw [strip_node, strip_node, bytes_inj g1, List.map_cons, List.map_cons, g2] <;> rfl, e⟩
    | ex a' ln' h1' =>
      exact absurd (show (30 : Nat) = 31 from hcls) (by decide)
    | blk l' ln' h1' =>
      exact absurd (show (30 : Nat) = 32 from hcls) (by decide)
    | i2 a' b' ln' h1' h2' =>
      exact absurd (show (30 : Nat) = 33 from hcls) (by decide)
    | i3 a' b' c' ln' h1' h2' h3' =>
      exact absurd (show (30 : Nat) = 33 from hcls) (by decide)
    | wh a' b' ln' h1' h2' =>
      exact absurd (show (30 : Nat) = 34 from hcls) (by decide)
    | fo s' a' b' ln' h1' h2' h3' =>
      exact absurd (show (30 : Nat) = 35 from hcls) (by decide)
    | r0 ln' =>
      exact absurd (show (30 : Nat) = 36 from hcls) (by decide)
    | r1 a' ln' h1' =>
      exact absurd (show (30 : Nat) = 36 from hcls) (by decide)
    | th a' ln' h1' =>
      exact absurd (show (30 : Nat) = 37 from hcls) (by decide)
    | tr s' a' b' ln' h1' h2' h3' =>
      exact absurd (show (30 : Nat) = 38 from hcls) (by decide)
    | br ln' =>
      exact absurd (show (30 : Nat) = 39 from hcls) (by decide)
    | co ln' =>
      exact absurd (show (30 : Nat) = 40 from hcls) (by decide)
    | fn s' ks' b' ln' h1' h2' h3' =>
      exact absurd (show (30 : Nat) = 41 from hcls) (by decide)
  | ex a ln h1 =>
    cases heb with
    | v0 s' ln' h1' =>
      exact absurd (show (31 : Nat) = 30 from hcls) (by decide)
    | v1 s' a' ln' h1' h2' =>
      exact absurd (show (31 : Nat) = 30 from hcls) (by decide)
    | ex a' ln' h1' =>
      rw [tx_s31 hf hk, tx_s31 hf' hk'] at e
      obtain ⟨g2, e⟩ := (ih m (by omega)).1 h1 h1' (by omega) (st_of (by simp)) (st_of (by simp)) e
      injection e with _ e
      injection e with _ e
      exact ⟨by rw [strip_node, strip_node, List.map_cons, List.map_cons, g2] <;> rfl, e⟩
    | blk l' ln' h1' =>
      exact absurd (show (31 : Nat) = 32 from hcls) (by decide)
    | i2 a' b' ln' h1' h2' =>
      exact absurd (show (31 : Nat) = 33 from hcls) (by decide)
    | i3 a' b' c' ln' h1' h2' h3' =>
      exact absurd (show (31 : Nat) = 33 from hcls) (by decide)
    | wh a' b' ln' h1' h2' =>
      exact absurd (show (31 : Nat) = 34 from hcls) (by decide)
    | fo s' a' b' ln' h1' h2' h3' =>
      exact absurd (show (31 : Nat) = 35 from hcls) (by decide)
    | r0 ln' =>
      exact absurd (show (31 : Nat) = 36 from hcls) (by decide)
    | r1 a' ln' h1' =>
      exact absurd (show (31 : Nat) = 36 from hcls) (by decide)
    | th a' ln' h1' =>
      exact absurd (show (31 : Nat) = 37 from hcls) (by decide)
    | tr s' a' b' ln' h1' h2' h3' =>
      exact absurd (show (31 : Nat) = 38 from hcls) (by decide)
    | br ln' =>
      exact absurd (show (31 : Nat) = 39 from hcls) (by decide)
    | co ln' =>
      exact absurd (show (31 : Nat) = 40 from hcls) (by decide)
    | fn s' ks' b' ln' h1' h2' h3' =>
      exact absurd (show (31 : Nat) = 41 from hcls) (by decide)
  | blk l ln h1 =>
    cases heb with
    | v0 s' ln' h1' =>
      exact absurd (show (32 : Nat) = 30 from hcls) (by decide)
    | v1 s' a' ln' h1' h2' =>
      exact absurd (show (32 : Nat) = 30 from hcls) (by decide)
    | ex a' ln' h1' =>
      exact absurd (show (32 : Nat) = 31 from hcls) (by decide)
    | blk l' ln' h1' =>
      obtain ⟨g1, g2⟩ := pb ⟨hf, rfl⟩ ⟨hf', rfl⟩ hk' e
      injection g2 with _ g2
      exact ⟨g1, g2⟩
    | i2 a' b' ln' h1' h2' =>
      exact absurd (show (32 : Nat) = 33 from hcls) (by decide)
    | i3 a' b' c' ln' h1' h2' h3' =>
      exact absurd (show (32 : Nat) = 33 from hcls) (by decide)
    | wh a' b' ln' h1' h2' =>
      exact absurd (show (32 : Nat) = 34 from hcls) (by decide)
    | fo s' a' b' ln' h1' h2' h3' =>
      exact absurd (show (32 : Nat) = 35 from hcls) (by decide)
    | r0 ln' =>
      exact absurd (show (32 : Nat) = 36 from hcls) (by decide)
    | r1 a' ln' h1' =>
      exact absurd (show (32 : Nat) = 36 from hcls) (by decide)
    | th a' ln' h1' =>
      exact absurd (show (32 : Nat) = 37 from hcls) (by decide)
    | tr s' a' b' ln' h1' h2' h3' =>
      exact absurd (show (32 : Nat) = 38 from hcls) (by decide)
    | br ln' =>
      exact absurd (show (32 : Nat) = 39 from hcls) (by decide)
    | co ln' =>
      exact absurd (show (32 : Nat) = 40 from hcls) (by decide)
    | fn s' ks' b' ln' h1' h2' h3' =>
      exact absurd (show (32 : Nat) = 41 from hcls) (by decide)
  | i2 a b ln h1 h2 =>
    cases heb with
    | v0 s' ln' h1' =>
      exact absurd (show (33 : Nat) = 30 from hcls) (by decide)
    | v1 s' a' ln' h1' h2' =>
      exact absurd (show (33 : Nat) = 30 from hcls) (by decide)
    | ex a' ln' h1' =>
      exact absurd (show (33 : Nat) = 31 from hcls) (by decide)
    | blk l' ln' h1' =>
      exact absurd (show (33 : Nat) = 32 from hcls) (by decide)
    | i2 a' b' ln' h1' h2' =>
      rw [tx_s33 hf hk, tx_s33 hf' hk'] at e
      have e := List.append_cancel_left e
      injection e with _ e
      injection e with _ e
      obtain ⟨g2, e⟩ := (ih m (by omega)).1 h1 h1' (by omega) (st_of (by simp)) (st_of (by simp)) e
      injection e with _ e
      injection e with _ e
      obtain ⟨g3, e⟩ := (ih m (by omega)).2.1 h2 h2' (by omega) e
      injection e with _ e
      exact ⟨by rw [strip_node, strip_node, List.map_cons, List.map_cons, List.map_cons, List.map_cons, g2, g3] <;> rfl, e⟩
    | i3 a' b' c' ln' h1' h2' h3' =>
      rw [tx_s33 hf hk, tx_s33e hf' hk'] at e
      have e := List.append_cancel_left e
      injection e with _ e
      injection e with _ e
      obtain ⟨g2, e⟩ := (ih m (by omega)).1 h1 h1' (by omega) (st_of (by simp)) (st_of (by simp)) e
      injection e with _ e
      injection e with _ e
      obtain ⟨g3, e⟩ := (ih m (by omega)).2.1 h2 h2' (by omega) e
      injection e with e _
      exact absurd e (by decide)
    | wh a' b' ln' h1' h2' =>
      exact absurd (show (33 : Nat) = 34 from hcls) (by decide)
    | fo s' a' b' ln' h1' h2' h3' =>
      exact absurd (show (33 : Nat) = 35 from hcls) (by decide)
    | r0 ln' =>
      exact absurd (show (33 : Nat) = 36 from hcls) (by decide)
    | r1 a' ln' h1' =>
      exact absurd (show (33 : Nat) = 36 from hcls) (by decide)
    | th a' ln' h1' =>
      exact absurd (show (33 : Nat) = 37 from hcls) (by decide)
    | tr s' a' b' ln' h1' h2' h3' =>
      exact absurd (show (33 : Nat) = 38 from hcls) (by decide)
    | br ln' =>
      exact absurd (show (33 : Nat) = 39 from hcls) (by decide)
    | co ln' =>
      exact absurd (show (33 : Nat) = 40 from hcls) (by decide)
    | fn s' ks' b' ln' h1' h2' h3' =>
      exact absurd (show (33 : Nat) = 41 from hcls) (by decide)
  | i3 a b c ln h1 h2 h3 =>
    cases heb with
    | v0 s' ln' h1' =>
      exact absurd (show (33 : Nat) = 30 from hcls) (by decide)
    | v1 s' a' ln' h1' h2' =>
      exact absurd (show (33 : Nat) = 30 from hcls) (by decide)
    | ex a' ln' h1' =>
      exact absurd (show (33 : Nat) = 31 from hcls) (by decide)
    | blk l' ln' h1' =>
      exact absurd (show (33 : Nat) = 32 from hcls) (by decide)
    | i2 a' b' ln' h1' h2' =>
      rw [tx_s33e hf hk, tx_s33 hf' hk'] at e
      have e := List.append_cancel_left e
      injection e with _ e
      injection e with _ e
      obtain ⟨g2, e⟩ := (ih m (by omega)).1 h1 h1' (by omega) (st_of (by simp)) (st_of (by simp)) e
      injection e with _ e
      injection e with _ e
      obtain ⟨g3, e⟩ := (ih m (by omega)).2.1 h2 h2' (by omega) e
      injection e with e _
      exact absurd e (by decide)
    | i3 a' b' c' ln' h1' h2' h3' =>
      rw [tx_s33e hf hk, tx_s33e hf' hk'] at e
      have e := List.append_cancel_left e
      injection e with _ e
      injection e with _ e
      obtain ⟨g2, e⟩ := (ih m (by omega)).1 h1 h1' (by omega) (st_of (by simp)) (st_of (by simp)) e
      injection e with _ e
      injection e with _ e
      obtain ⟨g3, e⟩ := (ih m (by omega)).2.1 h2 h2' (by omega) e
      injection e with _ e
      injection e with _ e
      injection e with _ e
      injection e with _ e
      injection e with _ e
      injection e with _ e
      obtain ⟨g4, e⟩ := (ih m (by omega)).2.1 h3 h3' (by omega) e
      injection e with _ e
      exact ⟨by rw [strip_node, strip_node, List.map_cons, List.map_cons, List.map_cons, List.map_cons, List.map_cons, List.map_cons, g2, g3, g4] <;> rfl, e⟩
    | wh a' b' ln' h1' h2' =>
      exact absurd (show (33 : Nat) = 34 from hcls) (by decide)
    | fo s' a' b' ln' h1' h2' h3' =>
      exact absurd (show (33 : Nat) = 35 from hcls) (by decide)
    | r0 ln' =>
      exact absurd (show (33 : Nat) = 36 from hcls) (by decide)
    | r1 a' ln' h1' =>
      exact absurd (show (33 : Nat) = 36 from hcls) (by decide)
    | th a' ln' h1' =>
      exact absurd (show (33 : Nat) = 37 from hcls) (by decide)
    | tr s' a' b' ln' h1' h2' h3' =>
      exact absurd (show (33 : Nat) = 38 from hcls) (by decide)
    | br ln' =>
      exact absurd (show (33 : Nat) = 39 from hcls) (by decide)
    | co ln' =>
      exact absurd (show (33 : Nat) = 40 from hcls) (by decide)
    | fn s' ks' b' ln' h1' h2' h3' =>
      exact absurd (show (33 : Nat) = 41 from hcls) (by decide)
  | wh a b ln h1 h2 =>
    cases heb with
    | v0 s' ln' h1' =>
      exact absurd (show (34 : Nat) = 30 from hcls) (by decide)
    | v1 s' a' ln' h1' h2' =>
      exact absurd (show (34 : Nat) = 30 from hcls) (by decide)
    | ex a' ln' h1' =>
      exact absurd (show (34 : Nat) = 31 from hcls) (by decide)
    | blk l' ln' h1' =>
      exact absurd (show (34 : Nat) = 32 from hcls) (by decide)
    | i2 a' b' ln' h1' h2' =>
      exact absurd (show (34 : Nat) = 33 from hcls) (by decide)
    | i3 a' b' c' ln' h1' h2' h3' =>
      exact absurd (show (34 : Nat) = 33 from hcls) (by decide)
    | wh a' b' ln' h1' h2' =>
      rw [tx_s34 hf hk, tx_s34 hf' hk'] at e
      have e := List.append_cancel_left e
      injection e with _ e
      injection e with _ e
      obtain ⟨g2, e⟩ := (ih m (by omega)).1 h1 h1' (by omega) (st_of (by simp)) (st_of (by simp)) e
      injection e with _ e
      injection e with _ e
      obtain ⟨g3, e⟩ := (ih m (by omega)).2.1 h2 h2' (by omega) e
      injection e with _ e
      exact ⟨by rw [strip_node, strip_node, List.map_cons, List.map_cons, List.map_cons, List.map_cons, g2, g3] <;> rfl, e⟩
    | fo s' a' b' ln' h1' h2' h3' =>
      exact absurd (show (34 : Nat) = 35 from hcls) (by decide)
    | r0 ln' =>
      exact absurd (show (34 : Nat) = 36 from hcls) (by decide)
    | r1 a' ln' h1' =>
      exact absurd (show (34 : Nat) = 36 from hcls) (by decide)
    | th a' ln' h1' =>
      exact absurd (show (34 : Nat) = 37 from hcls) (by decide)
    | tr s' a' b' ln' h1' h2' h3' =>
      exact absurd (show (34 : Nat) = 38 from hcls) (by decide)
    | br ln' =>
      exact absurd (show (34 : Nat) = 39 from hcls) (by decide)
    | co ln' =>
      exact absurd (show (34 : Nat) = 40 from hcls) (by decide)
    | fn s' ks' b' ln' h1' h2' h3' =>
      exact absurd (show (34 : Nat) = 41 from hcls) (by decide)
  | fo s a b ln h1 h2 h3 =>
    cases heb with
    | v0 s' ln' h1' =>
      exact absurd (show (35 : Nat) = 30 from hcls) (by decide)
    | v1 s' a' ln' h1' h2' =>
      exact absurd (show (35 : Nat) = 30 from hcls) (by decide)
    | ex a' ln' h1' =>
      exact absurd (show (35 : Nat) = 31 from hcls) (by decide)
    | blk l' ln' h1' =>
      exact absurd (show (35 : Nat) = 32 from hcls) (by decide)
    | i2 a' b' ln' h1' h2' =>
      exact absurd (show (35 : Nat) = 33 from hcls) (by decide)
    | i3 a' b' c' ln' h1' h2' h3' =>
      exact absurd (show (35 : Nat) = 33 from hcls) (by decide)
    | wh a' b' ln' h1' h2' =>
      exact absurd (show (35 : Nat) = 34 from hcls) (by decide)
    | fo s' a' b' ln' h1' h2' h3' =>
      rw [tx_s35 hf hk, tx_s35 hf' hk'] at e
      have e := List.append_cancel_left e
      injection e with _ e
      injection e with _ e
      injection e with _ e
      injection e with _ e
      injection e with _ e
      injection e with _ e
      obtain ⟨g1, e⟩ := run_inj (name_part h1).1 (name_part h1').1 (np_of (by simp)) (np_of (by simp)) e
      injection e with _ e
      injection e with _ e
      injection e with _ e
      injection e with _ e
      obtain ⟨g2, e⟩ := (ih m (by omega)).1 h2 h2' (by omega) (st_of (by simp)) (st_of (by simp)) e
      injection e with _ e
      injection e with _ e
      obtain ⟨g3, e⟩ := (ih m (by omega)).2.1 h3 h3' (by omega) e
      injection e with _ e
      exact ⟨by rw [strip_node, strip_node, bytes_inj g1, List.map_cons, List.map_cons, List.map_cons, List.map_cons, g2, g3] <;> rfl, e⟩
    | r0 ln' =>
      exact absurd (show (35 : Nat) = 36 from hcls) (by decide)
    | r1 a' ln' h1' =>
      exact absurd (show (35 : Nat) = 36 from hcls) (by decide)
    | th a' ln' h1' =>
      exact absurd (show (35 : Nat) = 37 from hcls) (by decide)
    | tr s' a' b' ln' h1' h2' h3' =>
      exact absurd (show (35 : Nat) = 38 from hcls) (by decide)
    | br ln' =>
      exact absurd (show (35 : Nat) = 39 from hcls) (by decide)
    | co ln' =>
      exact absurd (show (35 : Nat) = 40 from hcls) (by decide)
    | fn s' ks' b' ln' h1' h2' h3' =>
      exact absurd (show (35 : Nat) = 41 from hcls) (by decide)
  | r0 ln =>
    cases heb with
    | v0 s' ln' h1' =>
      exact absurd (show (36 : Nat) = 30 from hcls) (by decide)
    | v1 s' a' ln' h1' h2' =>
      exact absurd (show (36 : Nat) = 30 from hcls) (by decide)
    | ex a' ln' h1' =>
      exact absurd (show (36 : Nat) = 31 from hcls) (by decide)
    | blk l' ln' h1' =>
      exact absurd (show (36 : Nat) = 32 from hcls) (by decide)
    | i2 a' b' ln' h1' h2' =>
      exact absurd (show (36 : Nat) = 33 from hcls) (by decide)
    | i3 a' b' c' ln' h1' h2' h3' =>
      exact absurd (show (36 : Nat) = 33 from hcls) (by decide)
    | wh a' b' ln' h1' h2' =>
      exact absurd (show (36 : Nat) = 34 from hcls) (by decide)
    | fo s' a' b' ln' h1' h2' h3' =>
      exact absurd (show (36 : Nat) = 35 from hcls) (by decide)
    | r0 ln' =>
      rw [tx_s36n hf hk, tx_s36n hf' hk'] at e
      have e := List.append_cancel_left e
      injection e with _ e
      injection e with _ e
      exact ⟨by rw [strip_node, strip_node], e⟩
    | r1 a' ln' h1' =>
      rw [tx_s36n hf hk, tx_s36 hf' hk'] at e
      have e := List.append_cancel_left e
      injection e with e _
      exact absurd e (by decide)
    | th a' ln' h1' =>
      exact absurd (show (36 : Nat) = 37 from hcls) (by decide)
    | tr s' a' b' ln' h1' h2' h3' =>
      exact absurd (show (36 : Nat) = 38 from hcls) (by decide)
    | br ln' =>
      exact absurd (show (36 : Nat) = 39 from hcls) (by decide)
    | co ln' =>
      exact absurd (show (36 : Nat) = 40 from hcls) (by decide)
    | fn s' ks' b' ln' h1' h2' h3' =>
      exact absurd (show (36 : Nat) = 41 from hcls) (by decide)
  | r1 a ln h1 =>
    cases heb with
    | v0 s' ln' h1' =>
      exact absurd (show (36 : Nat) = 30 from hcls) (by decide)
    | v1 s' a' ln' h1' h2' =>
      exact absurd (show (36 : Nat) = 30 from hcls) (by decide)
    | ex a' ln' h1' =>
      exact absurd (show (36 : Nat) = 31 from hcls) (by decide)
    | blk l' ln' h1' =>
      exact absurd (show (36 : Nat) = 32 from hcls) (by decide)
    | i2 a' b' ln' h1' h2' =>
      exact absurd (show (36 : Nat) = 33 from hcls) (by decide)
    | i3 a' b' c' ln' h1' h2' h3' =>
      exact absurd (show (36 : Nat) = 33 from hcls) (by decide)
    | wh a' b' ln' h1' h2' =>
      exact absurd (show (36 : Nat) = 34 from hcls) (by decide)
    | fo s' a' b' ln' h1' h2' h3' =>
      exact absurd (show (36 : Nat) = 35 from hcls) (by decide)
    | r0 ln' =>
      rw [tx_s36 hf hk, tx_s36n hf' hk'] at e
      have e := List.append_cancel_left e
      injection e with e _
      exact absurd e (by decide)
    | r1 a' ln' h1' =>
      rw [tx_s36 hf hk, tx_s36 hf' hk'] at e
      have e := List.append_cancel_left e
      injection e with _ e
      obtain ⟨g2, e⟩ := (ih m (by omega)).1 h1 h1' (by omega) (st_of (by simp)) (st_of (by simp)) e
      injection e with _ e
      injection e with _ e
      exact ⟨by rw [strip_node, strip_node, List.map_cons, List.map_cons, g2] <;> rfl, e⟩
    | th a' ln' h1' =>
      exact absurd (show (36 : Nat) = 37 from hcls) (by decide)
    | tr s' a' b' ln' h1' h2' h3' =>
      exact absurd (show (36 : Nat) = 38 from hcls) (by decide)
    | br ln' =>
      exact absurd (show (36 : Nat) = 39 from hcls) (by decide)
    | co ln' =>
      exact absurd (show (36 : Nat) = 40 from hcls) (by decide)
    | fn s' ks' b' ln' h1' h2' h3' =>
      exact absurd (show (36 : Nat) = 41 from hcls) (by decide)
  | th a ln h1 =>
    cases heb with
    | v0 s' ln' h1' =>
      exact absurd (show (37 : Nat) = 30 from hcls) (by decide)
    | v1 s' a' ln' h1' h2' =>
      exact absurd (show (37 : Nat) = 30 from hcls) (by decide)
    | ex a' ln' h1' =>
      exact absurd (show (37 : Nat) = 31 from hcls) (by decide)
    | blk l' ln' h1' =>
      exact absurd (show (37 : Nat) = 32 from hcls) (by decide)
    | i2 a' b' ln' h1' h2' =>
      exact absurd (show (37 : Nat) = 33 from hcls) (by decide)
    | i3 a' b' c' ln' h1' h2' h3' =>
      exact absurd (show (37 : Nat) = 33 from hcls) (by decide)
    | wh a' b' ln' h1' h2' =>
      exact absurd (show (37 : Nat) = 34 from hcls) (by decide)
    | fo s' a' b' ln' h1' h2' h3' =>
      exact absurd (show (37 : Nat) = 35 from hcls) (by decide)
    | r0 ln' =>
      exact absurd (show (37 : Nat) = 36 from hcls) (by decide)
    | r1 a' ln' h1' =>
      exact absurd (show (37 : Nat) = 36 from hcls) (by decide)
    | th a' ln' h1' =>
      rw [tx_s37 hf hk, tx_s37 hf' hk'] at e
      have e := List.append_cancel_left e
      injection e with _ e
      obtain ⟨g2, e⟩ := (ih m (by omega)).1 h1 h1' (by omega) (st_of (by simp)) (st_of (by simp)) e
      injection e with _ e
      injection e with _ e
      exact ⟨by rw [strip_node, strip_node, List.map_cons, List.map_cons, g2] <;> rfl, e⟩
    | tr s' a' b' ln' h1' h2' h3' =>
      exact absurd (show (37 : Nat) = 38 from hcls) (by decide)
    | br ln' =>
      exact absurd (show (37 : Nat) = 39 from hcls) (by decide)
    | co ln' =>
      exact absurd (show (37 : Nat) = 40 from hcls) (by decide)
    | fn s' ks' b' ln' h1' h2' h3' =>
      exact absurd (show (37 : Nat) = 41 from hcls) (by decide)
  | tr s a b ln h1 h2 h3 =>
    cases heb with
    | v0 s' ln' h1' =>
      exact absurd (show (38 : Nat) = 30 from hcls) (by decide)
    | v1 s' a' ln' h1' h2' =>
      exact absurd (show (38 : Nat) = 30 from hcls) (by decide)
    | ex a' ln' h1' =>
      exact absurd (show (38 : Nat) = 31 from hcls) (by decide)
    | blk l' ln' h1' =>
      exact absurd (show (38 : Nat) = 32 from hcls) (by decide)
    | i2 a' b' ln' h1' h2' =>
      exact absurd (show (38 : Nat) = 33 from hcls) (by decide)
    | i3 a' b' c' ln' h1' h2' h3' =>
      exact absurd (show (38 : Nat) = 33 from hcls) (by decide)
    | wh a' b' ln' h1' h2' =>
      exact absurd (show (38 : Nat) = 34 from hcls) (by decide)
    | fo s' a' b' ln' h1' h2' h3' =>
      exact absurd (show (38 : Nat) = 35 from hcls) (by decide)
    | r0 ln' =>
      exact absurd (show (38 : Nat) = 36 from hcls) (by decide)
    | r1 a' ln' h1' =>
      exact absurd (show (38 : Nat) = 36 from hcls) (by decide)
    | th a' ln' h1' =>
      exact absurd (show (38 : Nat) = 37 from hcls) (by decide)
    | tr s' a' b' ln' h1' h2' h3' =>
      rw [tx_s38 hf hk, tx_s38 hf' hk'] at e
      have e := List.append_cancel_left e
      injection e with _ e
      obtain ⟨g2, e⟩ := (ih m (by omega)).2.1 h2 h2' (by omega) e
      injection e with _ e
      injection e with _ e
      injection e with _ e
      injection e with _ e
      injection e with _ e
      injection e with _ e
      injection e with _ e
      injection e with _ e
      obtain ⟨g1, e⟩ := run_inj (name_part h1).1 (name_part h1').1 (np_of (by simp)) (np_of (by simp)) e
      injection e with _ e
      injection e with _ e
      obtain ⟨g3, e⟩ := (ih m (by omega)).2.1 h3 h3' (by omega) e
      injection e with _ e
      exact ⟨by rw [strip_node, strip_node, bytes_inj g1, List.map_cons, List.map_cons, List.map_cons, List.map_cons, g2, g3] <;> rfl, e⟩
    | br ln' =>
      exact absurd (show (38 : Nat) = 39 from hcls) (by decide)
    | co ln' =>
      exact absurd (show (38 : Nat) = 40 from hcls) (by decide)
    | fn s' ks' b' ln' h1' h2' h3' =>
      exact absurd (show (38 : Nat) = 41 from hcls) (by decide)
  | br ln =>
    cases heb with
    | v0 s' ln' h1' =>
      exact absurd (show (39 : Nat) = 30 from hcls) (by decide)
    | v1 s' a' ln' h1' h2' =>
      exact absurd (show (39 : Nat) = 30 from hcls) (by decide)
    | ex a' ln' h1' =>
      exact absurd (show (39 : Nat) = 31 from hcls) (by decide)
    | blk l' ln' h1' =>
      exact absurd (show (39 : Nat) = 32 from hcls) (by decide)
    | i2 a' b' ln' h1' h2' =>
      exact absurd (show (39 : Nat) = 33 from hcls) (by decide)
    | i3 a' b' c' ln' h1' h2' h3' =>
      exact absurd (show (39 : Nat) = 33 from hcls) (by decide)
    | wh a' b' ln' h1' h2' =>
      exact absurd (show (39 : Nat) = 34 from hcls) (by decide)
    | fo s' a' b' ln' h1' h2' h3' =>
      exact absurd (show (39 : Nat) = 35 from hcls) (by decide)
    | r0 ln' =>
      exact absurd (show (39 : Nat) = 36 from hcls) (by decide)
    | r1 a' ln' h1' =>
      exact absurd (show (39 : Nat) = 36 from hcls) (by decide)
    | th a' ln' h1' =>
      exact absurd (show (39 : Nat) = 37 from hcls) (by decide)
    | tr s' a' b' ln' h1' h2' h3' =>
      exact absurd (show (39 : Nat) = 38 from hcls) (by decide)
    | br ln' =>
      rw [tx_s39 hf hk, tx_s39 hf' hk'] at e
      have e := List.append_cancel_left e
      injection e with _ e
      injection e with _ e
      exact ⟨by rw [strip_node, strip_node], e⟩
    | co ln' =>
      exact absurd (show (39 : Nat) = 40 from hcls) (by decide)
    | fn s' ks' b' ln' h1' h2' h3' =>
      exact absurd (show (39 : Nat) = 41 from hcls) (by decide)
  | co ln =>
    cases heb with
    | v0 s' ln' h1' =>
      exact absurd (show (40 : Nat) = 30 from hcls) (by decide)
    | v1 s' a' ln' h1' h2' =>
      exact absurd (show (40 : Nat) = 30 from hcls) (by decide)
    | ex a' ln' h1' =>
      exact absurd (show (40 : Nat) = 31 from hcls) (by decide)
    | blk l' ln' h1' =>
      exact absurd (show (40 : Nat) = 32 from hcls) (by decide)
    | i2 a' b' ln' h1' h2' =>
      exact absurd (show (40 : Nat) = 33 from hcls) (by decide)
    | i3 a' b' c' ln' h1' h2' h3' =>
      exact absurd (show (40 : Nat) = 33 from hcls) (by decide)
    | wh a' b' ln' h1' h2' =>
      exact absurd (show (40 : Nat) = 34 from hcls) (by decide)
    | fo s' a' b' ln' h1' h2' h3' =>
      exact absurd (show (40 : Nat) = 35 from hcls) (by decide)
    | r0 ln' =>
      exact absurd (show (40 : Nat) = 36 from hcls) (by decide)
    | r1 a' ln' h1' =>
      exact absurd (show (40 : Nat) = 36 from hcls) (by decide)
    | th a' ln' h1' =>
      exact absurd (show (40 : Nat) = 37 from hcls) (by decide)
    | tr s' a' b' ln' h1' h2' h3' =>
      exact absurd (show (40 : Nat) = 38 from hcls) (by decide)
    | br ln' =>
      exact absurd (show (40 : Nat) = 39 from hcls) (by decide)
    | co ln' =>
      rw [tx_s40 hf hk, tx_s40 hf' hk'] at e
      have e := List.append_cancel_left e
      injection e with _ e
      injection e with _ e
      exact ⟨by rw [strip_node, strip_node], e⟩
    | fn s' ks' b' ln' h1' h2' h3' =>
      exact absurd (show (40 : Nat) = 41 from hcls) (by decide)
  | fn s ks b ln h1 h2 h3 =>
    cases heb with
    | v0 s' ln' h1' =>
      exact absurd (show (41 : Nat) = 30 from hcls) (by decide)
    | v1 s' a' ln' h1' h2' =>
      exact absurd (show (41 : Nat) = 30 from hcls) (by decide)
    | ex a' ln' h1' =>
      exact absurd (show (41 : Nat) = 31 from hcls) (by decide)
    | blk l' ln' h1' =>
      exact absurd (show (41 : Nat) = 32 from hcls) (by decide)
    | i2 a' b' ln' h1' h2' =>
      exact absurd (show (41 : Nat) = 33 from hcls) (by decide)
    | i3 a' b' c' ln' h1' h2' h3' =>
      exact absurd (show (41 : Nat) = 33 from hcls) (by decide)
    | wh a' b' ln' h1' h2' =>
      exact absurd (show (41 : Nat) = 34 from hcls) (by decide)
    | fo s' a' b' ln' h1' h2' h3' =>
      exact absurd (show (41 : Nat) = 35 from hcls) (by decide)
    | r0 ln' =>
      exact absurd (show (41 : Nat) = 36 from hcls) (by decide)
    | r1 a' ln' h1' =>
      exact absurd (show (41 : Nat) = 36 from hcls) (by decide)
    | th a' ln' h1' =>
      exact absurd (show (41 : Nat) = 37 from hcls) (by decide)
    | tr s' a' b' ln' h1' h2' h3' =>
      exact absurd (show (41 : Nat) = 38 from hcls) (by decide)
    | br ln' =>
      exact absurd (show (41 : Nat) = 39 from hcls) (by decide)
    | co ln' =>
      exact absurd (show (41 : Nat) = 40 from hcls) (by decide)
    | fn s' ks' b' ln' h1' h2' h3' =>
      rw [tx_s41 hf hk, tx_s41 hf' hk'] at e
      have e := List.append_cancel_left e
      injection e with _ e
      obtain ⟨g1, e⟩ := run_inj (name_part h1).1 (name_part h1').1 (np_of (by simp)) (np_of (by simp)) e
      injection e with _ e
      obtain ⟨g3, e⟩ := list_inj (ih m (by omega)).1 (by omega) (show m' ≤ 100 by omega) h2 h2' e
      injection e with _ e
      obtain ⟨g5, e⟩ := (ih m (by omega)).2.1 h3 h3' (by omega) e
      injection e with _ e
      exact ⟨by rw [strip_node, strip_node, bytes_inj g1, List.map_append, List.map_append, g3, List.map_cons, List.map_cons, g5] <;> rfl, e⟩

theorem all_inj : ∀ k, k ≤ 100 → PE k ∧ PB k ∧ PS k := by
  intro k
  induction k using Nat.strongRecOn with
  | _ k ih =>
    intro hk
    have ih' : ∀ m, m < k → PE m ∧ PB m ∧ PS m := fun m hm => ih m hm (by omega)
    have pb : PB k := @block_inj k hk ih'
    exact ⟨@expr_inj k hk ih', pb, @stmt_inj k hk ih' pb⟩

theorem tx_low {h : Nat} {u : Tree} {i : List UInt8} (hf : fitsB h u = true) (hh : h ≤ 100) : T h u i = tx u i := (T_lift h u i 100 hf hh).symm
/-- Unlike expressions have unlike texts. -/
theorem expr_apart {a b : Tree} (ha : fitsB 100 a = true) (ha' : exprK a.op = true) (hb : fitsB 100 b = true) (hb' : exprK b.op = true) : T 100 a [] = T 100 b [] ↔ a.same b = true := by
  rw [same_iff]
  refine ⟨fun e => ?_, fun e => T_of_strip e⟩
  have e1 : tx a [] ++ [] = tx b [] ++ [] := by rw [List.append_nil, List.append_nil]; exact e
  exact ((all_inj 100 (Nat.le_refl _)).1 ⟨ha, ha'⟩ ⟨hb, hb'⟩ (Nat.le_refl _) (show st [] from trivial) (show st [] from trivial) e1).1
/-- Unlike programs have unlike texts. -/
theorem prog_apart {a b : Tree} (ha : fitsB 100 a = true) (ha' : a.op = 32) (hb : fitsB 100 b = true) (hb' : b.op = 32) : linesP a = linesP b ↔ a.same b = true := by
  rw [same_iff]
  obtain ⟨l, ln, rfl, hl⟩ := block_open ⟨ha, ha'⟩
  obtain ⟨m, ln', rfl, hm⟩ := block_open ⟨hb, hb'⟩
  have hx : ∀ {r : List Tree}, (∀ v, v ∈ r → SF 99 v) → linesL (T 99) r [] = linesL tx r [] := by
    intro r hr
    induction r with
    | nil => simp [linesL]
    | cons u r ih =>
      rw [lines_cons, lines_cons, ih (fun v hv => hr v (by simp [hv])), tx_low (hr u (by simp)).1 (by omega)]
  rw [strip_node, strip_node]
  unfold linesP
  simp only [Tree.l]
  rw [hx hl, hx hm]
  constructor
  · intro e
    have e1 : linesL tx l [] ++ [] = linesL tx m [] ++ [] := by rw [e]
    obtain ⟨g1, _⟩ := lines_inj (R := tx) (fun u hu v hv {p q} e => (all_inj 99 (by omega)).2.2 (hl u hu) (hm v hv) (by omega) e) (fun v _ z e => by
      have := congrArg List.length e
      simp at this) (fun u _ z e => by
      have := congrArg List.length e
      simp at this) e1
    rw [g1]
  · intro e
    injection e with _ _ _ e _
    have e2 : ∀ {r : List Tree}, linesL tx (r.map Tree.strip) [] = linesL tx r [] := by
      intro r
      induction r with
      | nil => rfl
      | cons u r ih =>
        rw [List.map_cons, lines_cons, lines_cons, ih]
        have : tx u.strip [] = tx u [] := T_strip 100 u []
        rw [this]
    rw [← e2, e, e2]

end Go.Proofs.YtcidccifnaecaaaDoor
