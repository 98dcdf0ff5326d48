/- Are two trees alike: the document's Same, walked. -/
import Derived.Test.YtcidccifnaecaaaDoorSize
import Derived.WideShapes
import Derived.StillTailTactics
namespace Go.Proofs.YtcidccifnaecaaaDoor
open Go.RowKit

mutual
def Tree.same : Tree → Tree → Bool
  | .node o s n l _, .node o' s' n' l' _ => decide (o = o') && decide (s = s') && decide (n = n') && sames l l'
def sames : List Tree → List Tree → Bool
  | [], [] => true
  | t :: ts, u :: us => t.same u && sames ts us
  | _, _ => false
end
theorem same_eq (t u : Tree) : t.same u = (decide (t.op = u.op) && decide (t.s = u.s) && decide (t.n = u.n) && sames t.l u.l) := by
  cases t; cases u
  simp only [Tree.same, Tree.op, Tree.s, Tree.n, Tree.l]
  congr
theorem sames_len : ∀ {l m : List Tree}, l.length ≠ m.length → sames l m = false
  | [], [], h => (h rfl).elim
  | t :: ts, u :: us, h => by
    simp only [sames]
    rw [sames_len (by simpa using h)]
    simp
  | [], _ :: _, _ => by simp [sames]
  | _ :: _, [], _ => by simp [sames]
theorem sames_at : ∀ {l m : List Tree} {k : Nat} {t u : Tree}, l[k]? = some t → m[k]? = some u → t.same u = false → sames l m = false
  | t' :: ts, u' :: us, 0, t, u, h1, h2, h => by
    simp at h1 h2
    subst h1 h2
    simp [sames, h]
  | t' :: ts, u' :: us, k + 1, t, u, h1, h2, h => by
    simp only [sames]
    rw [sames_at (l := ts) (m := us) (k := k) (by simpa using h1) (by simpa using h2) h]
    simp
  | [], _, _, _, _, h1, _, _ => by simp at h1
  | _ :: _, [], _, _, _, _, h2, _ => by simp at h2
theorem sames_all : ∀ {l m : List Tree}, l.length = m.length → (∀ (k : Nat) (t u : Tree), l[k]? = some t → m[k]? = some u → t.same u = true) → sames l m = true
  | [], [], _, _ => by simp [sames]
  | t :: ts, u :: us, hl, h => by
    simp only [sames]
    rw [h 0 t u (by simp) (by simp), sames_all (by simpa using hl) (fun k a b ha hb => h (k + 1) a b (by simpa using ha) (by simpa using hb))]
    rfl
  | [], _ :: _, hl, _ => by simp at hl
  | _ :: _, [], hl, _ => by simp at hl

theorem Kids.form {W : World} : ∀ {d : Nat} {l : List Tree} {v : Value}, Kids W d l v → l.length ≤ maxLen ∧ ∃ A c, v = .slice A l.length c
  | 0, l, v, h => by
    obtain ⟨rfl, A, c, rfl⟩ := h
    exact ⟨by simp [maxLen], A, c, rfl⟩
  | d + 1, l, v, h => by
    obtain ⟨hl, A, c, rfl, _⟩ := h
    exact ⟨hl, A, c, rfl⟩
/-- The cells of one tree, as the walk names them. -/
structure NodeAt (W : World) (q : Addr) (t : Tree) (sl : Value) : Prop where
  c0 : W.cell? q = some (.int .i64 t.op)
  c1 : W.cell? ⟨q.block, q.off + 1, none⟩ = some (.string t.s)
  c2 : W.cell? ⟨q.block, q.off + 2, none⟩ = some (.int .i64 t.n)
  c3 : W.cell? ⟨q.block, q.off + 3, none⟩ = some sl
  c4 : W.cell? ⟨q.block, q.off + 4, none⟩ = some (.int .i64 t.line)
theorem NodeAt.below {W W' : World} {q : Addr} {t : Tree} {sl : Value} (h : NodeAt W q t sl) (hb : Below W.heap.size W W') : NodeAt W' q t sl := by
  have hlt := World.block_lt_of_cell? W _ h.c0
  have e : ∀ p : Addr, p.block = q.block → W'.cell? p = W.cell? p := fun p hp => World.cell?_of_block (hb.block _ (by rw [hp]; exact hlt))
  exact ⟨(e _ rfl).trans h.c0, (e ⟨q.block, q.off + 1, none⟩ rfl).trans h.c1, (e ⟨q.block, q.off + 2, none⟩ rfl).trans h.c2, (e ⟨q.block, q.off + 3, none⟩ rfl).trans h.c3, (e ⟨q.block, q.off + 4, none⟩ rfl).trans h.c4⟩
theorem Kids.at_ {W : World} : ∀ {d : Nat} {l : List Tree} {A : Option Addr} {n c k : Nat} {t : Tree}, Kids W d l (.slice A n c) → l[k]? = some t → ∃ a sl d1, d1 < d ∧ A = some a ∧ NodeAt W (a.add (k * 5)) t sl ∧ Kids W d1 t.l sl ∧ t.ok
  | 0, l, A, n, c, k, t, h, hk => by
    obtain ⟨rfl, _⟩ := h
    simp at hk
  | d + 1, l, A, n, c, k, t, h, hk => by
    obtain ⟨hl, A', c', hv, h⟩ := h
    injection hv with h1 h2 h3
    subst h1
    obtain ⟨a, sl, rfl, hab, hs, c0, c1, c2, c3, c4, hd⟩ := h k t hk
    exact ⟨a, sl, d, by omega, rfl, ⟨c0, c1, c2, c3, c4⟩, hd, hs⟩

end Go.Proofs.YtcidccifnaecaaaDoor
