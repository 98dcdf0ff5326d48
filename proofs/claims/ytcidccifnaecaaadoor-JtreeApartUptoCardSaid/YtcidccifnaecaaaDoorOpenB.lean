/- An argument that is a tree: its weight against the bulk of what is read. -/
import Derived.Test.YtcidccifnaecaaaDoorOpen
import Derived.Test.YtcidccifnaecaaaDoorTxBound
import Derived.Test.YtcidccifnaecaaaDoorRows
import Derived.Lib.ItoaLen
namespace Go.Proofs.YtcidccifnaecaaaDoor
open Go.RowKit Go.ChangeShapes Go.WideShapes Go.Deep _root_.Go.Proofs.YtcidccifnaecaaaDoor.Rows

theorem bulk_all_at {H : Type} : ∀ {l : List (DataW H)} {i : Nat} {x : DataW H}, l[i]? = some x → uptoBulk x ≤ uptoBulkAll l
  | [], i, x, h => by simp at h
  | y :: r, 0, x, h => by
    obtain rfl : y = x := by simpa using h
    rw [uptoBulkAll]
    omega
  | y :: r, i + 1, x, h => by
    have := bulk_all_at (l := r) (i := i) (x := x) (by simpa using h)
    rw [uptoBulkAll]
    omega
theorem wts_bulk {H : Type} : ∀ {l : List Tree} {es : List (DataW H)}, l.length = es.length → (∀ (i : Nat) (t : Tree) (x : DataW H), l[i]? = some t → es[i]? = some x → t.wt ≤ 84 * uptoBulk x) → wts l ≤ 84 * uptoBulkAll es
  | [], [], _, _ => by simp [wts]
  | [], y :: r, h, _ => by simp at h
  | t :: l, [], h, _ => by simp at h
  | t :: l, y :: r, h, hw => by
    have h1 := hw 0 t y rfl rfl
    have h2 := wts_bulk (l := l) (es := r) (by simpa using h) (fun i t x h3 h4 => hw (i + 1) t x (by simpa using h3) (by simpa using h4))
    rw [wts, uptoBulkAll]
    omega

set_option maxRecDepth 100000 in
theorem open_fieldsB {H : Type} {enc : TypeId × Value → H} {W : World} {base fuel : Nat} {sp : Nat → Bool} {hd : Bool} {cs : List Value} {x : DataW H × List MemPlace}
    (h : DataW.trod enc Tryd.prog W base sp hd fuel 24 cs = some x) (hl : cs.length = 5) :
    ∃ (t : Tree) (sl : Value) (n : Nat) (y : DataW H × List MemPlace), n < fuel ∧ cs = [.int .i64 t.op, .string t.s, .int .i64 t.n, sl, .int .i64 t.line] ∧ t.ok ∧ t.l = [] ∧ DataW.trod enc Tryd.prog W base sp hd n 22 [sl] = some y ∧ t.s.size + 5 + uptoBulk y.1 ≤ uptoBulk x.1 := by
  obtain ⟨ys, n', hfu, hx, _, hyl, hf⟩ := DataW.trod_struct Tryd.underlying24 h
  match cs, hl with
  | [c0, c1, c2, c3, c4], _ =>
    match ys, hyl with
    | [y0, y1, y2, y3, y4], _ =>
      obtain ⟨b0, e0, x0, w0⟩ := DataW.trod_int Tryd.underlying3 (hf 0 _ rfl)
      obtain ⟨b1, e1, x1, w1⟩ := DataW.trod_string Tryd.underlying9 (hf 1 _ rfl)
      obtain ⟨b2, e2, x2, w2⟩ := DataW.trod_int Tryd.underlying2 (hf 2 _ rfl)
      obtain ⟨b4, e4, x4, w4⟩ := DataW.trod_int Tryd.underlying3 (hf 4 _ rfl)
      have f3 := hf 3 _ rfl
      injection e0 with e0 _
      injection e1 with e1 _
      injection e2 with e2 _
      injection e4 with e4 _
      subst e0 e1 e2 e4
      refine ⟨.node b0 b1 b2 [] b4, c3, n', y3, by omega, rfl, ⟨w1, w0, w2⟩, rfl, f3, ?_⟩
      have hs : b1.data.toList.length = b1.size := Array.length_toList
      subst x0 x1 x2 x4
      rw [hx]
      simp only [List.map_cons, List.map_nil, uptoBulk, uptoBulkAll, Tree.s]
      omega

theorem node_wt {t : Tree} {l : List Tree} {b y : Nat} (hok : t.ok) (h : t.s.size + 5 + y ≤ b) (hl : wts l ≤ 84 * y) : (Tree.node t.op t.s t.n l t.line).wt ≤ 84 * b := by
  have h1 : (Lib.itoa t.n).length ≤ 21 := by
    have h2 := hok.2.2
    rw [Lit.wf, Bool.and_eq_true, decide_eq_true_eq, decide_eq_true_eq, show IntKind.i64.min = -9223372036854775808 by decide, show IntKind.i64.max = 9223372036854775807 by decide] at h2
    exact Lib.itoa_length_le t.n (by omega) (by omega)
  rw [Tree.wt]
  omega

theorem choose_treesB {p : Nat → Nat → Tree → Prop} {q : Nat → Tree → Prop} (n : Nat) (h : ∀ i, i < n → ∃ d x, p i d x ∧ q i x) (hm : ∀ i d d' x, d ≤ d' → p i d x → p i d' x) : ∃ (D : Nat) (xs : List Tree), xs.length = n ∧ ∀ (i : Nat) (x : Tree), xs[i]? = some x → p i D x ∧ q i x :=
  choose_trees (p := fun i d x => p i d x ∧ q i x) n (fun i hi => by obtain ⟨d, x, h1⟩ := h i hi; exact ⟨d, x, h1⟩) (fun i d d' x hd hp => ⟨hm i d d' x hd hp.1, hp.2⟩)

theorem open_kidsB {H : Type} {enc : TypeId × Value → H} {W : World} {base : Nat} {sp : Nat → Bool} {hd : Bool} : ∀ (fuel : Nat) (v : Value) (x : DataW H × List MemPlace), DataW.trod enc Tryd.prog W base sp hd fuel 22 [v] = some x → ∃ (d : Nat) (l : List Tree), Kids W d l v ∧ wts l ≤ 84 * uptoBulk x.1 := by
  intro fuel
  induction fuel using Nat.strongRecOn with
  | _ fuel ih =>
    intro v x h
    rcases DataW.trod_slice Tryd.underlying22 h with ⟨hcs, _⟩ | ⟨a, len, cap, elems, rest, n, hfu, hcs, hx, hb, hl, hm, hlen, hel, _, _⟩
    · injection hcs with hcs _
      subst hcs
      exact ⟨0, [], ⟨rfl, none, 0, rfl⟩, by simp [wts]⟩
    · injection hcs with hcs _
      subst hcs
      have c5 : Tryd.prog.cellsOf 24 = 5 := by kernel_rfl
      rw [c5] at hel
      have key : ∀ i, i < len → ∃ (d : Nat) (t : Tree), (∃ sl, a.block < W.heap.size ∧ t.ok ∧ W.cell? (a.add (i * 5)) = some (.int .i64 t.op) ∧ W.cell? ((a.add (i * 5)).add 1) = some (.string t.s) ∧ W.cell? ((a.add (i * 5)).add 2) = some (.int .i64 t.n) ∧
          W.cell? ((a.add (i * 5)).add 3) = some sl ∧ W.cell? ((a.add (i * 5)).add 4) = some (.int .i64 t.line) ∧ Kids W d t.l sl) ∧ (∀ e, elems[i]? = some e → t.wt ≤ 84 * uptoBulk e.1) := by
        intro i hi
        have hk := hel i hi
        have hei := List.getElem?_eq_getElem (l := elems) (i := i) (by omega)
        rw [hei] at hk
        obtain ⟨cs', h1, h2⟩ := Option.bind_eq_some_iff.1 hk
        obtain ⟨_, hcl, hat⟩ := World.cells?_some h1
        obtain ⟨t, sl, n', y, hn', rfl, hok, _, htr, hbk⟩ := open_fieldsB h2 hcl
        obtain ⟨d, l, hkids, hwl⟩ := ih n' (by omega) sl y htr
        have h0 : W.cell? (a.add (i * 5)) = some (.int .i64 t.op) := hat 0 (by decide)
        have hlt := World.block_lt_of_cell? W _ h0
        have hbb : (a.add (i * 5)).block = a.block := by unfold Addr.add; split <;> rfl
        refine ⟨d, .node t.op t.s t.n l t.line, ⟨sl, by rw [← hbb]; exact hlt, hok, h0, hat 1 (by decide), hat 2 (by decide), hat 3 (by decide), hat 4 (by decide), hkids⟩, fun e he => ?_⟩
        rw [hei] at he
        injection he with he
        subst he
        exact node_wt hok hbk hwl
      obtain ⟨D, l, hll, hall⟩ := choose_treesB len key (fun i d d' t hd ⟨sl, q1, q2, q3, q4, q5, q6, q7, q8⟩ => ⟨sl, q1, q2, q3, q4, q5, q6, q7, q8.mono hd⟩)
      refine ⟨D + 1, l, ⟨by omega, some a, cap, by rw [hll], fun k t hk => ?_⟩, ?_⟩
      · obtain ⟨⟨sl, q1, q2, q3, q4, q5, q6, q7, q8⟩, _⟩ := hall k t hk
        exact ⟨a, sl, rfl, ⟨q1, by rw [hll]; exact hl⟩, q2, q3, q4, q5, q6, q7, q8⟩
      · have h9 := wts_bulk (l := l) (es := elems.map (·.1)) (by rw [List.length_map]; omega) (fun i t x h3 h4 => by
          rw [List.getElem?_map] at h4
          cases he : elems[i]? with
          | none => rw [he] at h4; cases h4
          | some e =>
            rw [he] at h4
            injection h4 with h4
            subst h4
            exact (hall i t h3).2 e he)
        rw [hx]
        simp only [uptoBulk]
        omega

set_option maxRecDepth 100000 in
theorem open_treeB {H : Type} (enc : TypeId × Value → H) {W : World} {base : Nat} {v : Value} {d : DataW H} {ps : List MemPlace} (hv : Value.okWide Tryd.prog W .any base 24 v)
    (h : DataW.Trod enc Tryd.prog W 0 (fun _ => true) true 24 v d ps) : ∃ t, TreeArg W v t ∧ t.wt ≤ 84 * uptoBulk d := by
  obtain ⟨fuel, hf⟩ := h
  obtain ⟨cs, rfl, hsz⟩ := okWide_struct Tryd.underlying24 hv
  have c5 : Tryd.prog.cellsOf 24 = 5 := by kernel_rfl
  rw [c5] at hsz
  have hf' : DataW.trod enc Tryd.prog W 0 (fun _ => true) true fuel 24 cs.toList = some (d, ps) := hf
  obtain ⟨t, sl, n, y, _, hcs, hok, _, htr, hbk⟩ := open_fieldsB hf' (by simpa using hsz)
  obtain ⟨d', l, hk, hwl⟩ := open_kidsB n sl y htr
  have hcs' : cs = #[.int .i64 t.op, .string t.s, .int .i64 t.n, sl, .int .i64 t.line] := Array.toList_inj.1 hcs
  subst hcs'
  exact ⟨.node t.op t.s t.n l t.line, ⟨d', sl, rfl, hk, hok⟩, node_wt hok hbk hwl⟩

end Go.Proofs.YtcidccifnaecaaaDoor
