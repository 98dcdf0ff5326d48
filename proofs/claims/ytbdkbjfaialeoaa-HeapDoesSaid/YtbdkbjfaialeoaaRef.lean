/- The document's heap (gumshoeref07) in memory: RHp, by the same objects; what a new one, a turn elsewhere makes of it. -/
import Derived.Test.YtbdkbjfaialeoaaCalls
namespace Go.Proofs.Ytbdkbjfaialeoaa
open Go.RowKit

structure Ro where
  kv : Value
  vv : Value
def Vl.cells (v : Vl) : List Value := [.int .i64 v.kind, .int .i64 v.n, .string v.s]
def Vl.zero : Vl := ⟨0, 0, ⟨#[]⟩⟩
def valAt (o : Ob) (k : ByteArray) : Vl := (o.vals k.data.toList).getD Vl.zero
def valsOf (o : Ob) (ks : List ByteArray) : List Value := ks.flatMap fun k => (valAt o k).cells
def roCells (L : Ro) (o : Ox) : List Value := [.int .i64 o.mark, .int .i64 o.proto, .int .i64 o.code, .int .i64 o.frame, L.kv, L.vv]
def rowCells : List Ro → List Ob → List Value
  | L :: Ls, o :: os => roCells L o.o ++ rowCells Ls os
  | _, _ => []

theorem rowCells_len : ∀ {Ls : List Ro} {os : List Ob}, Ls.length = os.length → (rowCells Ls os).length = os.length * 6
  | [], [], _ => rfl
  | L :: Ls, o :: os, h => by
    simp only [rowCells, List.length_append, roCells, List.length_cons, List.length_nil]
    rw [rowCells_len (by simpa using h)]
    omega
  | [], _ :: _, h => by simp at h
  | _ :: _, [], h => by simp at h
theorem rowCells_at : ∀ {Ls : List Ro} {os : List Ob} {i : Nat} {L : Ro} {o : Ob} (j : Nat), Ls[i]? = some L → os[i]? = some o → j < 6 → (rowCells Ls os)[i * 6 + j]? = (roCells L o.o)[j]?
  | M :: Ls, p :: os, 0, L, o, j, hL, ho, hj => by
    simp at hL ho
    subst hL ho
    rw [rowCells, List.getElem?_append_left (by simp [roCells]; omega)]
    simp
  | M :: Ls, p :: os, i + 1, L, o, j, hL, ho, hj => by
    rw [rowCells, List.getElem?_append_right (by simp [roCells]; omega)]
    have h1 := rowCells_at (Ls := Ls) (os := os) (i := i) j (by simpa using hL) (by simpa using ho) hj
    rw [← h1]
    congr 1
    simp [roCells]
    omega
  | [], _, _, _, _, _, hL, _, _ => by simp at hL
  | _ :: _, [], _, _, _, _, _, ho, _ => by simp at ho
theorem rowCells_snoc : ∀ {Ls : List Ro} {os : List Ob} (L : Ro) (o : Ob), Ls.length = os.length → rowCells (Ls ++ [L]) (os ++ [o]) = rowCells Ls os ++ roCells L o.o
  | [], [], L, o, _ => by simp [rowCells]
  | M :: Ls, p :: os, L, o, h => by
    simp only [List.cons_append, rowCells]
    rw [rowCells_snoc L o (by simpa using h), List.append_assoc]
  | [], _ :: _, _, _, h => by simp at h
  | _ :: _, [], _, _, h => by simp at h

structure RObj (w : World) (B : Nat) (L : Ro) (o : Ob) : Prop where
  krow : w.ownsRow B 9 1 L.kv o.keys.length (o.keys.map Value.string)
  vrow : w.ownsRow B 33 3 L.vv o.keys.length (valsOf o o.keys)
  nodup : o.keys.Nodup
  has : ∀ x : ByteArray, (o.vals x.data.toList).isSome = true ↔ x ∈ o.keys

def RFoot (rb : Nat) (lv : Value) (Ls : List Ro) (k : Nat) : Prop := k = rb ∨ lv.ownBlock = some k ∨ ∃ L ∈ Ls, L.kv.ownBlock = some k ∨ L.vv.ownBlock = some k

structure RAt (w : World) (B rb : Nat) (lv : Value) (Ls : List Ro) (os : List Ob) : Prop where
  blk : Blk w rb 56 #[lv]
  row : w.ownsRow B 74 6 lv os.length (rowCells Ls os)
  len : Ls.length = os.length
  obj : ∀ (i : Nat) (L : Ro) (o : Ob), Ls[i]? = some L → os[i]? = some o → RObj w B L o
  apart : ∀ (i j : Nat) (L M : Ro), i ≠ j → Ls[i]? = some L → Ls[j]? = some M → (∀ g, L.kv.ownBlock = some g → M.kv.ownBlock ≠ some g) ∧ (∀ g, L.vv.ownBlock = some g → M.vv.ownBlock ≠ some g)
  low : B ≤ rb

def RHp (w : World) (B rb : Nat) (F : Nat → Prop) (os : List Ob) : Prop := ∃ lv Ls, RAt w B rb lv Ls os ∧ ∀ k, F k ↔ RFoot rb lv Ls k

section
variable {w w' : World} {B rb : Nat} {lv : Value} {Ls : List Ro} {os : List Ob} {F : Nat → Prop}

theorem RObj.keep {L : Ro} {o : Ob} (h : RObj w B L o) (h1 : ∀ g, L.kv.ownBlock = some g → w'.heap[g]? = w.heap[g]?) (h2 : ∀ g, L.vv.ownBlock = some g → w'.heap[g]? = w.heap[g]?) : RObj w' B L o :=
  ⟨own_keep h.krow h1, own_keep h.vrow h2, h.nodup, h.has⟩
theorem RAt.at_ (h : RAt w B rb lv Ls os) {L : Ro} (hL : L ∈ Ls) : ∃ (i : Nat) (o : Ob), Ls[i]? = some L ∧ os[i]? = some o ∧ RObj w B L o := by
  obtain ⟨i, hi⟩ := List.mem_iff_getElem?.1 hL
  have hlt : i < os.length := by
    have := (List.getElem?_eq_some_iff.1 hi).1
    rw [← h.len]
    exact this
  exact ⟨i, os[i], hi, List.getElem?_eq_getElem hlt, h.obj i L _ hi (List.getElem?_eq_getElem hlt)⟩
theorem RAt.keep (h : RAt w B rb lv Ls os) (hk : ∀ k, RFoot rb lv Ls k → w'.heap[k]? = w.heap[k]?) : RAt w' B rb lv Ls os := by
  refine ⟨h.blk.keep (hk _ (.inl rfl)), own_keep h.row (fun g hg => hk g (.inr (.inl hg))), h.len, fun i L o hL ho => ?_, h.apart, h.low⟩
  have hm : L ∈ Ls := List.mem_of_getElem? hL
  exact (h.obj i L o hL ho).keep (fun g hg => hk _ (.inr (.inr ⟨L, hm, .inl hg⟩))) (fun g hg => hk g (.inr (.inr ⟨L, hm, .inr hg⟩)))
theorem RAt.foot (h : RAt w B rb lv Ls os) : ∀ k, RFoot rb lv Ls k → B ≤ k ∧ k < w.heap.size := by
  rintro k (rfl | hk | ⟨L, hL, hk⟩)
  · exact ⟨h.low, h.blk.lt⟩
  · exact h.row.lt k hk
  · obtain ⟨i, o, _, _, hO⟩ := h.at_ hL
    rcases hk with hk | hk
    · exact hO.krow.lt k hk
    · exact hO.vrow.lt k hk
theorem RHp.keep (h : RHp w B rb F os) (hk : ∀ k, F k → w'.heap[k]? = w.heap[k]?) : RHp w' B rb F os := by
  obtain ⟨lv, Ls, h1, h2⟩ := h
  exact ⟨lv, Ls, h1.keep (fun k h => hk k ((h2 k).2 h)), h2⟩
theorem RHp.foot (h : RHp w B rb F os) : ∀ k, F k → B ≤ k ∧ k < w.heap.size := by
  obtain ⟨lv, Ls, h1, h2⟩ := h
  exact fun k hF => h1.foot k ((h2 k).1 hF)
theorem RHp.turn {G : Nat → Prop} (h : RHp w B rb F os) (hk : Turn G w w') (hFG : ∀ k, F k → ¬ G k) : RHp w' B rb F os :=
  h.keep (fun k hF => hk.block k (h.foot k hF).2 (hFG k hF))
theorem RHp.below (h : RHp w B rb F os) (hk : Below w.heap.size w w') : RHp w' B rb F os :=
  h.keep (fun k hF => hk.block k (h.foot k hF).2)
theorem RHp.cell (h : RHp w B rb F os) : ∃ A cap, w.cell? ⟨rb, 0, none⟩ = some (.slice A os.length cap) := by
  obtain ⟨lv, Ls, h1, h2⟩ := h
  obtain ⟨A, cap, rfl⟩ := own_slice h1.row
  exact ⟨A, cap, by rw [h1.blk.cell 0]; rfl⟩

/-- The way to a thing's cells. -/
theorem RAt.way (h : RAt w B rb lv Ls os) {p : Nat} {o : Ob} (ho : os[p]? = some o) :
    ∃ g cap L, lv = .slice (some ⟨g, 0, none⟩) os.length cap ∧ Ls[p]? = some L ∧ w.cell? ⟨rb, 0, none⟩ = some (.slice (some ⟨g, 0, none⟩) os.length cap) ∧ (∀ j, j < 6 → w.cell? ⟨g, p * 6 + j, none⟩ = (roCells L o.o)[j]?) ∧ RObj w B L o ∧ g < w.heap.size := by
  have hp : p < os.length := (List.getElem?_eq_some_iff.1 ho).1
  obtain ⟨g, cap, hv, _, hg⟩ := h.row.form (by omega)
  have hpl : p < Ls.length := by rw [h.len]; exact hp
  refine ⟨g, cap, Ls[p], hv, List.getElem?_eq_getElem hpl, ?_, fun j hj => ?_, h.obj p _ o (List.getElem?_eq_getElem hpl) ho, hg⟩
  · rw [h.blk.cell 0, ← hv]; rfl
  · have h1 := rowCells_at j (List.getElem?_eq_getElem hpl) ho hj
    have hlt : j < (roCells Ls[p] o.o).length := by simpa [roCells] using hj
    rw [List.getElem?_eq_getElem hlt] at h1 ⊢
    have := h.row.cells (g := g) (by rw [hv]; rfl) (p * 6 + j) _ h1
    have hadd : (⟨g, 0, none⟩ : Addr).add (p * 6 + j) = ⟨g, p * 6 + j, none⟩ := by unfold Addr.add; split <;> simp_all
    rw [hadd] at this
    exact this
theorem RHp.way (h : RHp w B rb F os) {p : Nat} {o : Ob} (ho : os[p]? = some o) :
    ∃ g cap L, w.cell? ⟨rb, 0, none⟩ = some (.slice (some ⟨g, 0, none⟩) os.length cap) ∧ (∀ j, j < 6 → w.cell? ⟨g, p * 6 + j, none⟩ = (roCells L o.o)[j]?) ∧ RObj w B L o ∧ g < w.heap.size := by
  obtain ⟨lv, Ls, h1, _⟩ := h
  obtain ⟨g, cap, L, _, _, h2⟩ := h1.way ho
  exact ⟨g, cap, L, h2⟩
end

end Go.Proofs.Ytbdkbjfaialeoaa
