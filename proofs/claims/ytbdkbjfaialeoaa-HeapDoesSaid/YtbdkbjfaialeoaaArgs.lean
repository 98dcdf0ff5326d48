/- Arguments that are slices of strings, and of acts, as lists. -/
import Derived.Test.YtbdkbjfaialeoaaHeap
import Derived.SliceStrings
import Derived.Deep.Slices
import Derived.Deep.Fields
import Derived.ChangeSame
namespace Go.Proofs.Ytbdkbjfaialeoaa
open Go.RowKit Go.ChangeShapes Go.WideShapes Go.Deep

/-- The argument v is the slice of these strings. -/
def StrArg (W : World) (v : Value) (xs : List ByteArray) : Prop :=
  ∃ A c, v = .slice A xs.length c ∧ xs.length ≤ maxLen ∧ ∀ (k : Nat) (x : ByteArray), xs[k]? = some x → ∃ a, A = some a ∧ a.block < W.heap.size ∧ W.cell? (a.add k) = some (.string x) ∧ x.size ≤ maxLen

theorem open_strs {H : Type} (enc : TypeId × Value → H) {W : World} {base : Nat} {v : Value} {d : DataW H} {ps : List MemPlace} (hv : Value.okWide Try.prog W .any base 38 v)
    (h : DataW.Trod enc Try.prog W 0 (fun _ => true) true 38 v d ps) : ∃ xs, StrArg W v xs := by
  obtain ⟨a0, len, cap, rfl⟩ := okWide_slice Try.underlying38 hv
  obtain ⟨fuel, hf⟩ := h
  rcases open_strings Try.underlying38 Try.underlying9 (by kernel_rfl) hf with ⟨hcs, _⟩ | ⟨a, len', cap', ss, hcs, _, hl, hm, hz, _, hcell, hsz⟩
  · simp [Value.cells] at hcs
    obtain ⟨rfl, rfl, rfl⟩ := hcs
    exact ⟨[], none, 0, rfl, by simp [maxLen], fun k x hk => by simp at hk⟩
  · simp [Value.cells] at hcs
    obtain ⟨rfl, rfl, rfl⟩ := hcs
    simp only [if_true] at hz
    refine ⟨ss.take len, some a, cap, ?_, ?_, fun k x hk => ⟨a, rfl, ?_⟩⟩
    · rw [List.length_take, Nat.min_eq_left (by omega)]
    · rw [List.length_take]; omega
    · have hlt : k < ss.length := by
        have := (List.getElem?_eq_some_iff.1 hk).1
        rw [List.length_take] at this
        omega
      have hk' : ss[k]? = some x := by
        rw [List.getElem?_take] at hk
        split at hk
        · exact hk
        · cases hk
      have hx : ss.getD k ByteArray.empty = x := by rw [List.getD_eq_getElem?_getD, hk']; rfl
      have hc := hcell k hlt
      rw [hx] at hc
      have hb := World.block_lt_of_cell? W _ hc
      have hbb : (a.add k).block = a.block := by unfold Addr.add; split <;> rfl
      exact ⟨by rw [← hbb]; exact hb, hc, hsz x (List.mem_of_getElem? hk')⟩

structure ActV where
  do_ : Int
  p : Int
  o : Ox
  key : ByteArray
  v : Vl

/-- The cells of one act from an address on. -/
structure ActCells (W : World) (a : Addr) (x : ActV) : Prop where
  c0 : W.cell? a = some (.int .i64 x.do_)
  c1 : W.cell? (a.add 1) = some (.int .i64 x.p)
  c2 : W.cell? (a.add 2) = some (.int .i64 x.o.mark)
  c3 : W.cell? (a.add 3) = some (.int .i64 x.o.proto)
  c4 : W.cell? (a.add 4) = some (.int .i64 x.o.code)
  c5 : W.cell? (a.add 5) = some (.int .i64 x.o.frame)
  c6 : W.cell? (a.add 6) = some (.string x.key)
  c7 : W.cell? (a.add 7) = some (.int .i64 x.v.kind)
  c8 : W.cell? (a.add 8) = some (.int .i64 x.v.n)
  c9 : W.cell? (a.add 9) = some (.string x.v.s)
  hs : x.key.size ≤ maxLen

/-- The argument v is the slice of these acts. -/
def ActArg (W : World) (v : Value) (xs : List ActV) : Prop :=
  ∃ A c, v = .slice A xs.length c ∧ xs.length ≤ maxLen ∧ ∀ (k : Nat) (x : ActV), xs[k]? = some x → ∃ a, A = some a ∧ a.block < W.heap.size ∧ ActCells W (a.add (k * 10)) x

theorem ActCells.keep {W W' : World} {a : Addr} {x : ActV} (h : ActCells W a x) (hk : W'.heap[a.block]? = W.heap[a.block]?) : ActCells W' a x := by
  have hb : ∀ k, (a.add k).block = a.block := fun k => by unfold Addr.add; split <;> rfl
  have hc : ∀ k, W'.cell? (a.add k) = W.cell? (a.add k) := fun k => World.cell?_of_block (by rw [hb]; exact hk)
  exact ⟨(World.cell?_of_block hk).trans h.c0, (hc _).trans h.c1, (hc _).trans h.c2, (hc _).trans h.c3, (hc _).trans h.c4, (hc _).trans h.c5, (hc _).trans h.c6, (hc _).trans h.c7, (hc _).trans h.c8, (hc _).trans h.c9, h.hs⟩

theorem open_act {H : Type} {enc : TypeId × Value → H} {W : World} {base n : Nat} {sp : Nat → Bool} {hd : Bool} {a : Addr} {cs : List Value} {y : DataW H × List MemPlace} (hc : W.cells? base a 10 = some cs)
    (h : DataW.trod enc Try.prog W base sp hd n 46 cs = some y) : ∃ x, ActCells W a x := by
  obtain ⟨_, hcl, hat⟩ := World.cells?_some hc
  obtain ⟨ys, n', _, _, _, hyl, hf⟩ := DataW.trod_struct Try.underlying46 h
  match cs, hcl with
  | [c0, c1, c2, c3, c4, c5, c6, c7, c8, c9], _ =>
    have f0 := hf 0 _ rfl
    have f1 := hf 1 _ rfl
    have f2 := hf 2 _ rfl
    have f3 := hf 3 _ rfl
    have f4 := hf 4 _ rfl
    match ys, hyl with
    | [y0, y1, y2, y3, y4], _ =>
      obtain ⟨b0, e0, _, _⟩ := DataW.trod_int Try.underlying3 f0
      obtain ⟨b1, e1, _, _⟩ := DataW.trod_int Try.underlying3 f1
      obtain ⟨b6, e6, _, w6⟩ := DataW.trod_string Try.underlying9 f3
      obtain ⟨zs, m, _, _, _, hzl, hg⟩ := DataW.trod_struct Try.underlying29 f2
      obtain ⟨us, m', _, _, _, hul, hg'⟩ := DataW.trod_struct Try.underlying33 f4
      match zs, hzl with
      | [z0, z1, z2, z3], _ =>
        obtain ⟨b2, e2, _, _⟩ := DataW.trod_int Try.underlying3 (hg 0 _ rfl)
        obtain ⟨b3, e3, _, _⟩ := DataW.trod_int Try.underlying3 (hg 1 _ rfl)
        obtain ⟨b4, e4, _, _⟩ := DataW.trod_int Try.underlying3 (hg 2 _ rfl)
        obtain ⟨b5, e5, _, _⟩ := DataW.trod_int Try.underlying3 (hg 3 _ rfl)
        match us, hul with
        | [u0, u1, u2], _ =>
          obtain ⟨b7, e7, _, _⟩ := DataW.trod_int Try.underlying3 (hg' 0 _ rfl)
          obtain ⟨b8, e8, _, _⟩ := DataW.trod_int Try.underlying2 (hg' 1 _ rfl)
          obtain ⟨b9, e9, _, _⟩ := DataW.trod_string Try.underlying9 (hg' 2 _ rfl)
          injection e0 with e0 _
          injection e1 with e1 _
          injection e2 with e2 _
          injection e3 with e3 _
          injection e4 with e4 _
          injection e5 with e5 _
          injection e6 with e6 _
          injection e7 with e7 _
          injection e8 with e8 _
          injection e9 with e9 _
          subst e0 e1 e2 e3 e4 e5 e6 e7 e8 e9
          exact ⟨⟨b0, b1, ⟨b2, b3, b4, b5⟩, b6, ⟨b7, b8, b9⟩⟩, hat 0 (by decide), hat 1 (by decide), hat 2 (by decide), hat 3 (by decide), hat 4 (by decide), hat 5 (by decide), hat 6 (by decide), hat 7 (by decide), hat 8 (by decide), hat 9 (by decide), w6⟩

theorem choose_list {α : Type} {p : Nat → α → Prop} : ∀ (n : Nat), (∀ i, i < n → ∃ x, p i x) → ∃ xs : List α, xs.length = n ∧ ∀ (i : Nat) (x : α), xs[i]? = some x → p i x
  | 0, _ => ⟨[], rfl, fun i x h => by simp at h⟩
  | n + 1, h => by
    obtain ⟨xs, hl, hx⟩ := choose_list n (fun i hi => h i (by omega))
    obtain ⟨x, hp⟩ := h n (by omega)
    refine ⟨xs ++ [x], by simp [hl], fun i y hy => ?_⟩
    rcases Nat.lt_or_ge i xs.length with hi | hi
    · rw [List.getElem?_append_left hi] at hy
      exact hx i y hy
    · rw [List.getElem?_append_right hi] at hy
      have : i = n := by
        have := (List.getElem?_eq_some_iff.1 hy).1
        simp at this
        omega
      subst this
      rw [hl, Nat.sub_self] at hy
      simp at hy
      exact hy ▸ hp

theorem open_acts {H : Type} (enc : TypeId × Value → H) {W : World} {base : Nat} {v : Value} {d : DataW H} {ps : List MemPlace} (hv : Value.okWide Try.prog W .any base 43 v)
    (h : DataW.Trod enc Try.prog W 0 (fun _ => true) true 43 v d ps) : ∃ xs, ActArg W v xs := by
  obtain ⟨a0, len, cap, rfl⟩ := okWide_slice Try.underlying43 hv
  obtain ⟨fuel, hf⟩ := h
  rcases open_slice Try.underlying43 hf with ⟨hcs, _⟩ | ⟨a, len', cap', m, n, D, Pl, hcs, _, hl, hm, hmm, _, hi⟩
  · simp [Value.cells] at hcs
    obtain ⟨rfl, rfl, rfl⟩ := hcs
    exact ⟨[], none, 0, rfl, by simp [maxLen], fun k x hk => by simp at hk⟩
  · simp [Value.cells] at hcs
    obtain ⟨rfl, rfl, rfl⟩ := hcs
    simp only [if_true] at hmm
    have hC : Try.prog.cellsOf 46 = 10 := by kernel_rfl
    rw [hC] at hi
    obtain ⟨xs, hxl, hx⟩ := choose_list (p := fun i x => ActCells W (a.add (i * 10)) x) len (fun i him => by
      obtain ⟨cs', hc, ht⟩ := hi i (by omega)
      exact open_act hc ht)
    refine ⟨xs, some a, cap, by rw [hxl], by omega, fun k x hk => ⟨a, rfl, ?_, hx k x hk⟩⟩
    have hb := World.block_lt_of_cell? W _ (hx k x hk).c0
    have hbb : (a.add (k * 10)).block = a.block := by unfold Addr.add; split <;> rfl
    rw [← hbb]
    exact hb

end Go.Proofs.Ytbdkbjfaialeoaa
