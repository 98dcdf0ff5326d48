/- Trees (api.Node) in memory, by reads alone. -/
import Derived.WalkKit
import Derived.WalkSpells
import Derived.Below
import Derived.Test.YtcidccifnaecaaaDoorProg
namespace Go.Proofs.YtcidccifnaecaaaDoor
open Go.RowKit

inductive Tree where
  | node (op : Int) (s : ByteArray) (n : Int) (l : List Tree) (line : Int)
def Tree.op : Tree → Int | .node o _ _ _ _ => o
def Tree.s : Tree → ByteArray | .node _ s _ _ _ => s
def Tree.n : Tree → Int | .node _ _ n _ _ => n
def Tree.l : Tree → List Tree | .node _ _ _ l _ => l
def Tree.line : Tree → Int | .node _ _ _ _ i => i

/-- What memory can hold. -/
def Tree.ok (t : Tree) : Prop := t.s.size ≤ maxLen ∧ (Lit.int .i64 t.op).wf = true ∧ (Lit.int .i64 t.n).wf = true

/-- The slice value v holds these trees, of at most d levels. -/
def Kids (W : World) : Nat → List Tree → Value → Prop
  | 0, l, v => l = [] ∧ ∃ A c, v = .slice A 0 c
  | d + 1, l, v => l.length ≤ maxLen ∧ ∃ A c, v = .slice A l.length c ∧ ∀ (k : Nat) (t : Tree), l[k]? = some t → ∃ a sl, A = some a ∧ (a.block < W.heap.size ∧ l.length ≤ c) ∧ t.ok ∧
      W.cell? (a.add (k * 5)) = some (.int .i64 t.op) ∧ W.cell? ((a.add (k * 5)).add 1) = some (.string t.s) ∧ W.cell? ((a.add (k * 5)).add 2) = some (.int .i64 t.n) ∧ W.cell? ((a.add (k * 5)).add 3) = some sl ∧ W.cell? ((a.add (k * 5)).add 4) = some (.int .i64 t.line) ∧ Kids W d t.l sl

theorem Kids.below {W W' : World} (hb : Below W.heap.size W W') : ∀ {d : Nat} {l : List Tree} {v : Value}, Kids W d l v → Kids W' d l v
  | 0, _, _, h => h
  | d + 1, l, v, h => by
    obtain ⟨hl, A, c, rfl, h⟩ := h
    refine ⟨hl, A, c, rfl, fun k t hk => ?_⟩
    obtain ⟨a, sl, rfl, hab, hs, c0, c1, c2, c3, c4, hk'⟩ := h k t hk
    have hbl : ∀ (x : Addr) j, (x.add j).block = x.block := fun x j => by unfold Addr.add; split <;> rfl
    have e : ∀ p : Addr, p.block = a.block → W'.cell? p = W.cell? p := fun p hp => World.cell?_of_block (hb.block _ (by rw [hp]; exact hab.1))
    refine ⟨a, sl, rfl, ⟨Nat.lt_of_lt_of_le hab.1 hb.size, hab.2⟩, hs, (e _ (hbl _ _)).trans c0, (e _ (by rw [hbl, hbl])).trans c1, (e _ (by rw [hbl, hbl])).trans c2, (e _ (by rw [hbl, hbl])).trans c3, (e _ (by rw [hbl, hbl])).trans c4, hk'.below hb⟩

/-- The value of one tree. -/
def Tree.val (t : Tree) (sl : Value) : Value := .agg #[.int .i64 t.op, .string t.s, .int .i64 t.n, sl, .int .i64 t.line]

end Go.Proofs.YtcidccifnaecaaaDoor
