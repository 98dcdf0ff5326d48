/- An argument that is a tree: from its reading to the tree in memory. -/
import Derived.Test.YtcidccifnaecaaaDoorSames
import Derived.ChangeArms
import Derived.Deep.Slices
import Derived.ChangeSame
namespace Go.Proofs.YtcidccifnaecaaaDoor
open Go.RowKit Go.ChangeShapes Go.WideShapes Go.Deep

theorem Kids.mono {W : World} : ∀ {d : Nat} {l : List Tree} {v : Value}, Kids W d l v → ∀ {d' : Nat}, d ≤ d' → Kids W d' l v
  | 0, l, v, h, 0, _ => h
  | 0, l, v, h, d' + 1, _ => by
    obtain ⟨rfl, A, c, rfl⟩ := h
    exact ⟨by simp [maxLen], A, c, rfl, fun k t hk => by simp at hk⟩
  | d + 1, l, v, h, 0, hd => by omega
  | d + 1, l, v, h, d' + 1, hd => by
    obtain ⟨hl, A, c, rfl, h⟩ := h
    refine ⟨hl, A, c, rfl, fun k t hk => ?_⟩
    obtain ⟨a, sl, h1, h2, h3, h4, h5, h6, h7, h8, h9⟩ := h k t hk
    exact ⟨a, sl, h1, h2, h3, h4, h5, h6, h7, h8, h9.mono (by omega)⟩

theorem choose_trees {p : Nat → Nat → Tree → Prop} : ∀ (n : Nat), (∀ i, i < n → ∃ d x, p i d x) → (∀ i d d' x, d ≤ d' → p i d x → p i d' x) → ∃ (D : Nat) (xs : List Tree), xs.length = n ∧ ∀ (i : Nat) (x : Tree), xs[i]? = some x → p i D x
  | 0, _, _ => ⟨0, [], rfl, fun i x h => by simp at h⟩
  | n + 1, h, hm => by
    obtain ⟨D, xs, hl, hx⟩ := choose_trees n (fun i hi => h i (by omega)) hm
    obtain ⟨d, x, hp⟩ := h n (by omega)
    refine ⟨max D d, xs ++ [x], by simp [hl], fun i y hy => ?_⟩
    rcases Nat.lt_or_ge i xs.length with hi | hi
    · rw [List.getElem?_append_left hi] at hy
      exact hm _ _ _ _ (Nat.le_max_left _ _) (hx i y hy)
    · rw [List.getElem?_append_right hi] at hy
      have : i = n := by
        have := (List.getElem?_eq_some_iff.1 hy).1
        simp at this
        omega
      subst this
      rw [hl, Nat.sub_self] at hy
      simp at hy
      exact hy ▸ hm _ _ _ _ (Nat.le_max_right _ _) hp

set_option maxRecDepth 100000 in
theorem open_fields {H : Type} {enc : TypeId × Value → H} {W : World} {base fuel : Nat} {sp : Nat → Bool} {hd : Bool} {cs : List Value} {x : DataW H × List MemPlace}
    (h : DataW.trod enc Tryd.prog W base sp hd fuel 24 cs = some x) (hl : cs.length = 5) :
    ∃ (t : Tree) (sl : Value) (n : Nat) (y : DataW H × List MemPlace), n < fuel ∧ cs = [.int .i64 t.op, .string t.s, .int .i64 t.n, sl, .int .i64 t.line] ∧ t.ok ∧ t.l = [] ∧ DataW.trod enc Tryd.prog W base sp hd n 22 [sl] = some y := by
  obtain ⟨ys, n', hfu, _, _, hyl, hf⟩ := DataW.trod_struct Tryd.underlying24 h
  match cs, hl with
  | [c0, c1, c2, c3, c4], _ =>
    match ys, hyl with
    | [y0, y1, y2, y3, y4], _ =>
      obtain ⟨b0, e0, _, w0⟩ := DataW.trod_int Tryd.underlying3 (hf 0 _ rfl)
      obtain ⟨b1, e1, _, w1⟩ := DataW.trod_string Tryd.underlying9 (hf 1 _ rfl)
      obtain ⟨b2, e2, _, w2⟩ := DataW.trod_int Tryd.underlying2 (hf 2 _ rfl)
      obtain ⟨b4, e4, _, w4⟩ := DataW.trod_int Tryd.underlying3 (hf 4 _ rfl)
      have f3 := hf 3 _ rfl
      injection e0 with e0 _
      injection e1 with e1 _
      injection e2 with e2 _
      injection e4 with e4 _
      subst e0 e1 e2 e4
      exact ⟨.node b0 b1 b2 [] b4, c3, n', y3, by omega, rfl, ⟨w1, w0, w2⟩, rfl, f3⟩

theorem open_kids {H : Type} {enc : TypeId × Value → H} {W : World} {base : Nat} {sp : Nat → Bool} {hd : Bool} : ∀ (fuel : Nat) (v : Value) (x : DataW H × List MemPlace), DataW.trod enc Tryd.prog W base sp hd fuel 22 [v] = some x → ∃ (d : Nat) (l : List Tree), Kids W d l v := by
  intro fuel
  induction fuel using Nat.strongRecOn with
  | _ fuel ih =>
    intro v x h
    rcases DataW.trod_slice Tryd.underlying22 h with ⟨hcs, _⟩ | ⟨a, len, cap, elems, rest, n, hfu, hcs, _, hb, hl, hm, hlen, hel, _, _⟩
    · injection hcs with hcs _
      subst hcs
      exact ⟨0, [], rfl, none, 0, rfl⟩
    · injection hcs with hcs _
      subst hcs
      have c5 : Tryd.prog.cellsOf 24 = 5 := by kernel_rfl
      rw [c5] at hel
      have key : ∀ i, i < len → ∃ (d : Nat) (t : Tree), ∃ sl, a.block < W.heap.size ∧ t.ok ∧ W.cell? (a.add (i * 5)) = some (.int .i64 t.op) ∧ W.cell? ((a.add (i * 5)).add 1) = some (.string t.s) ∧ W.cell? ((a.add (i * 5)).add 2) = some (.int .i64 t.n) ∧
          W.cell? ((a.add (i * 5)).add 3) = some sl ∧ W.cell? ((a.add (i * 5)).add 4) = some (.int .i64 t.line) ∧ Kids W d t.l sl := by
        intro i hi
        have hk := hel i hi
        rw [List.getElem?_eq_getElem (by omega)] at hk
        obtain ⟨cs', h1, h2⟩ := Option.bind_eq_some_iff.1 hk
        obtain ⟨_, hcl, hat⟩ := World.cells?_some h1
        obtain ⟨t, sl, n', y, hn', rfl, hok, _, htr⟩ := open_fields h2 hcl
        obtain ⟨d, l, hkids⟩ := ih n' (by omega) sl y htr
        have h0 : W.cell? (a.add (i * 5)) = some (.int .i64 t.op) := hat 0 (by decide)
        have hlt := World.block_lt_of_cell? W _ h0
        have hbb : (a.add (i * 5)).block = a.block := by unfold Addr.add; split <;> rfl
        exact ⟨d, .node t.op t.s t.n l t.line, sl, by rw [← hbb]; exact hlt, hok, h0, hat 1 (by decide), hat 2 (by decide), hat 3 (by decide), hat 4 (by decide), hkids⟩
      obtain ⟨D, l, hll, hall⟩ := choose_trees len key (fun i d d' t hd ⟨sl, q1, q2, q3, q4, q5, q6, q7, q8⟩ => ⟨sl, q1, q2, q3, q4, q5, q6, q7, q8.mono hd⟩)
      refine ⟨D + 1, l, by omega, some a, cap, by rw [hll], fun k t hk => ?_⟩
      obtain ⟨sl, q1, q2, q3, q4, q5, q6, q7, q8⟩ := hall k t hk
      exact ⟨a, sl, rfl, ⟨q1, by rw [hll]; exact hl⟩, q2, q3, q4, q5, q6, q7, q8⟩

/-- The argument v is this tree. -/
def TreeArg (W : World) (v : Value) (t : Tree) : Prop := ∃ (d : Nat) (sl : Value), v = .agg #[.int .i64 t.op, .string t.s, .int .i64 t.n, sl, .int .i64 t.line] ∧ Kids W d t.l sl ∧ t.ok

set_option maxRecDepth 100000 in
theorem open_tree {H : Type} (enc : TypeId × Value → H) {W : World} {base : Nat} {v : Value} {d : DataW H} {ps : List MemPlace} (hv : Value.okWide Tryd.prog W .any base 24 v)
    (h : DataW.Trod enc Tryd.prog W 0 (fun _ => true) true 24 v d ps) : ∃ t, TreeArg W v t := by
  obtain ⟨fuel, hf⟩ := h
  obtain ⟨cs, rfl, hsz⟩ := okWide_struct Tryd.underlying24 hv
  have c5 : Tryd.prog.cellsOf 24 = 5 := by kernel_rfl
  rw [c5] at hsz
  have hf' : DataW.trod enc Tryd.prog W 0 (fun _ => true) true fuel 24 cs.toList = some (d, ps) := hf
  obtain ⟨t, sl, n, y, _, hcs, hok, _, htr⟩ := open_fields hf' (by simpa using hsz)
  obtain ⟨d', l, hk⟩ := open_kids n sl y htr
  have hcs' : cs = #[.int .i64 t.op, .string t.s, .int .i64 t.n, sl, .int .i64 t.line] := Array.toList_inj.1 hcs
  subst hcs'
  exact ⟨.node t.op t.s t.n l t.line, d', sl, rfl, hk, hok⟩

end Go.Proofs.YtcidccifnaecaaaDoor
