/- Acts on a heap, by a total function. -/
import Derived.Test.YtbdkbjfaialeoaaHides
import Derived.Test.YtbdkbjfaialeoaaArgs
namespace Go.Proofs.Ytbdkbjfaialeoaa
open Go.RowKit Go.Sort

def kind0 (x : ActV) : Bool := (IntKind.u64.wrap x.do_).tmod 3 == 0
def actT (os : List Ob) (x : ActV) : List Ob := if kind0 x then (allocT os x.o).2 else (putT os x.p x.key x.v).2

/-- A heap of a law between two acts. -/
structure ActR (w : World) (hb : Nat) (F : Nat → Prop) (os : List Ob) (k : Nat) (wr : World) : Prop where
  st : St w wr hb F os
  tied : Tied os
  small : Small (2 + k) os
  len : os.length ≤ 4 + k

theorem ActR.alloc {w wr w' : World} {hb : Nat} {F : Nat → Prop} {os : List Ob} {k : Nat} (h : ActR w hb F os k wr) (o : Ox) (hg : Grew wr hb hb F (allocT os o).2 w') :
    ∃ F', ActR w hb F' (allocT os o).2 (k + 1) w' ∧ (∀ j, j < wr.heap.size → ¬ F j → ¬ F' j) ∧ Turn F wr w' := by
  obtain ⟨F', h1, h2, h3⟩ := h.st.grew hg
  exact ⟨F', ⟨h1, tied_alloc h.tied o, (small_alloc h.small o).mono (by omega), by have := (allocT_len os o).2; have := h.len; omega⟩, h2, h3⟩
theorem ActR.put {w wr w' : World} {hb : Nat} {F : Nat → Prop} {os : List Ob} {k : Nat} (h : ActR w hb F os k wr) (p : Int) (key : ByteArray) (v : Vl) (hg : Grew wr hb hb F (putT os p key v).2 w') :
    ∃ F', ActR w hb F' (putT os p key v).2 (k + 1) w' ∧ (∀ j, j < wr.heap.size → ¬ F j → ¬ F' j) ∧ Turn F wr w' := by
  obtain ⟨F', h1, h2, h3⟩ := h.st.grew hg
  exact ⟨F', ⟨h1, tied_put h.tied p key v, small_put h.small p key v, by have := putT_len os p key v; have := h.len; omega⟩, h2, h3⟩
theorem ActR.below {w wr w' : World} {hb : Nat} {F : Nat → Prop} {os : List Ob} {k : Nat} (h : ActR w hb F os k wr) (hb' : Below wr.heap.size wr w') : ActR w hb F os k w' :=
  ⟨h.st.below hb', h.tied, h.small, h.len⟩
theorem ActR.more {w wr : World} {hb : Nat} {F : Nat → Prop} {os : List Ob} {k : Nat} (h : ActR w hb F os k wr) : ActR w hb F os (k + 1) wr :=
  ⟨h.st, h.tied, h.small.mono (by omega), by have := h.len; omega⟩

/-- The cells of an act, as the walk names them. -/
theorem ActCells.flat {W : World} {q : Addr} {x : ActV} (h : ActCells W q x) :
    W.cell? ⟨q.block, q.off + 1, none⟩ = some (.int .i64 x.p) ∧ W.cell? ⟨q.block, q.off + 2, none⟩ = some (.int .i64 x.o.mark) ∧ W.cell? ⟨q.block, q.off + 2 + 1, none⟩ = some (.int .i64 x.o.proto) ∧ W.cell? ⟨q.block, q.off + 2 + 2, none⟩ = some (.int .i64 x.o.code) ∧
    W.cell? ⟨q.block, q.off + 2 + 3, none⟩ = some (.int .i64 x.o.frame) ∧ W.cell? ⟨q.block, q.off + 6, none⟩ = some (.string x.key) ∧ W.cell? ⟨q.block, q.off + 7, none⟩ = some (.int .i64 x.v.kind) ∧ W.cell? ⟨q.block, q.off + 7 + 1, none⟩ = some (.int .i64 x.v.n) ∧ W.cell? ⟨q.block, q.off + 7 + 2, none⟩ = some (.string x.v.s) :=
  ⟨h.c1, h.c2, h.c3, h.c4, h.c5, h.c6, h.c7, h.c8, h.c9⟩

end Go.Proofs.Ytbdkbjfaialeoaa
