/- The document's Flat, walked: a tree and all its parts. -/
import Derived.Test.YtcidccifnaecaaaDoorSames
import Derived.Test.YtcidccifnaecaaaDoorBase
import Derived.OwnWalk
import Derived.Maps.OwnOps
namespace Go.Proofs.YtcidccifnaecaaaDoor
open Go.RowKit

mutual
def Tree.flat : Tree → List Tree
  | .node o s n l i => .node o s n l i :: flats l
def flats : List Tree → List Tree
  | [] => []
  | t :: ts => t.flat ++ flats ts
end
theorem flat_eq (t : Tree) : t.flat = t :: flats t.l := by cases t; simp [Tree.flat, Tree.l]
theorem flats_append : ∀ (a b : List Tree), flats (a ++ b) = flats a ++ flats b
  | [], b => by simp [flats]
  | t :: a, b => by simp [flats, flats_append a b]
theorem flats_next {l : List Tree} {k : Nat} {u : Tree} (h : l[k]? = some u) : flats (l.take (k + 1)) = flats (l.take k) ++ u.flat := by
  rw [List.take_add_one, h, flats_append]
  simp [flats]
mutual
theorem flat_len : ∀ (t : Tree), t.flat.length = t.count
  | .node _ _ _ l _ => by simp [Tree.flat, Tree.count, flats_len l]
theorem flats_len : ∀ (l : List Tree), (flats l).length = counts l
  | [] => by simp [flats, counts]
  | t :: ts => by simp [flats, counts, flat_len t, flats_len ts]
end

/-- The cells of trees that lie behind each other. -/
def cellsOf (p : Tree × Value) : List Value := [.int .i64 p.1.op, .string p.1.s, .int .i64 p.1.n, p.2, .int .i64 p.1.line]
def nodeCells (ps : List (Tree × Value)) : List Value := ps.flatMap cellsOf
theorem nodeCells_append (a b : List (Tree × Value)) : nodeCells (a ++ b) = nodeCells a ++ nodeCells b := by simp [nodeCells]
theorem nodeCells_len : ∀ (ps : List (Tree × Value)), (nodeCells ps).length = ps.length * 5
  | [] => by simp [nodeCells]
  | p :: ps => by
    have := nodeCells_len ps
    unfold nodeCells at this ⊢
    simp only [List.flatMap_cons, List.length_append, this, List.length_cons, cellsOf, List.length_nil]
    omega
theorem nodeCells_get : ∀ {ps : List (Tree × Value)} {k : Nat} {p : Tree × Value} (j : Nat), ps[k]? = some p → j < 5 → (nodeCells ps)[k * 5 + j]? = (cellsOf p)[j]?
  | [], _, _, _, h, _ => by simp at h
  | q :: ps, 0, p, j, h, hj => by
    obtain rfl : q = p := by simpa using h
    have hl : (cellsOf q).length = 5 := rfl
    simp only [nodeCells, List.flatMap_cons, Nat.zero_mul, Nat.zero_add]
    rw [List.getElem?_append_left (by omega)]
  | q :: ps, k + 1, p, j, h, hj => by
    have hl : (cellsOf q).length = 5 := rfl
    have ih := nodeCells_get (ps := ps) (k := k) (p := p) j (by simpa using h) hj
    unfold nodeCells at ih ⊢
    simp only [List.flatMap_cons]
    rw [List.getElem?_append_right (by omega), hl, show (k + 1) * 5 + j - 5 = k * 5 + j by omega, ih]

/-- A tree that may be held: what memory can hold, its parts in memory. -/
def Good (W : World) (p : Tree × Value) : Prop := p.1.ok ∧ ∃ d, Kids W d p.1.l p.2
theorem Good.below {W W' : World} {p : Tree × Value} (h : Good W p) (hb : Below W.heap.size W W') : Good W' p := by
  obtain ⟨h1, d, h2⟩ := h
  exact ⟨h1, d, h2.below hb⟩
theorem Good.one {W : World} {ps : List (Tree × Value)} (h : ∀ p ∈ ps, Good W p) : ∀ u ∈ nodeCells ps, u.oneCell' = true := by
  intro u hu
  simp only [nodeCells, List.mem_flatMap] at hu
  obtain ⟨p, hp, hu⟩ := hu
  obtain ⟨_, d, hk⟩ := h p hp
  obtain ⟨_, A, c, hs⟩ := hk.form
  simp only [cellsOf, hs, List.mem_cons, List.not_mem_nil, or_false] at hu
  rcases hu with rfl | rfl | rfl | rfl | rfl <;> rfl

theorem info_node : (Tryd.prog.info? 24).map (fun i => (i.zero, i.size, i.bytes)) = some (some (.agg #[.int .i64 0, .string ⟨#[]⟩, .int .i64 0, .slice none 0 0, .int .i64 0]), 5, 64) := by kernel_rfl

end Go.Proofs.YtcidccifnaecaaaDoor
