/- size, Small of the laws on trees, walked. -/
import Derived.Test.YtcidccifnaecaaaDoorTree
import Derived.Test.YtcidccifnaecaaaDoorChecked
import Derived.Deep.QuietTactic
import Derived.BigQuiet
import Derived.WalkLawsBesides
import Derived.Lib.Hide
namespace Go.Proofs.YtcidccifnaecaaaDoor
open Go.RowKit

mutual
def Tree.size : Tree → Int → Int
  | .node _ _ _ l _, left => sizes l (left - 1)
def sizes : List Tree → Int → Int
  | [], left => left
  | t :: ts, left => sizes ts (if 0 ≤ left then t.size left else left)
end

theorem sizes_append : ∀ (a b : List Tree) (left : Int), sizes (a ++ b) left = sizes b (sizes a left)
  | [], b, left => by simp [sizes]
  | t :: a, b, left => by
    simp only [List.cons_append, sizes]
    exact sizes_append a b _
theorem sizes_neg : ∀ (l : List Tree) {left : Int}, left < 0 → sizes l left = left
  | [], _, _ => by simp [sizes]
  | t :: l, left, h => by
    simp only [sizes]
    rw [if_neg (by omega), sizes_neg l h]
theorem size_eq (t : Tree) (left : Int) : t.size left = sizes t.l (left - 1) := by
  cases t
  simp [Tree.size, Tree.l]
mutual
theorem size_le : ∀ (t : Tree) {left : Int}, 0 ≤ left → -1 ≤ t.size left ∧ t.size left ≤ left - 1
  | .node _ _ _ l _, left, h => by
    simp only [Tree.size]
    have := sizes_le l (left := left - 1) (by omega)
    omega
theorem sizes_le : ∀ (l : List Tree) {left : Int}, -1 ≤ left → -1 ≤ sizes l left ∧ sizes l left ≤ left
  | [], left, h => by simp [sizes]; omega
  | t :: l, left, h => by
    simp only [sizes]
    by_cases h0 : 0 ≤ left
    · rw [if_pos h0]
      have h1 := size_le t h0
      have h2 := sizes_le l (left := t.size left) h1.1
      omega
    · rw [if_neg h0]
      exact sizes_le l h
end

/-- A box that holds a node. -/
structure Blk5 (W : World) (g : Nat) (op : Int) (s : ByteArray) (n : Int) (sl : Value) (line : Int) : Prop where
  c0 : W.cell? ⟨g, 0, none⟩ = some (.int .i64 op)
  c1 : W.cell? ⟨g, 1, none⟩ = some (.string s)
  c2 : W.cell? ⟨g, 2, none⟩ = some (.int .i64 n)
  c3 : W.cell? ⟨g, 3, none⟩ = some sl
  c4 : W.cell? ⟨g, 4, none⟩ = some (.int .i64 line)
theorem Blk5.keep {W W' : World} {g : Nat} {op n line : Int} {s : ByteArray} {sl : Value} (h : Blk5 W g op s n sl line) (hb : Below W.heap.size W W') : Blk5 W' g op s n sl line := by
  have hlt := World.block_lt_of_cell? W _ h.c0
  have e : ∀ i, W'.cell? ⟨g, i, none⟩ = W.cell? ⟨g, i, none⟩ := fun i => World.cell?_of_block (hb.block _ hlt)
  exact ⟨(e _).trans h.c0, (e _).trans h.c1, (e _).trans h.c2, (e _).trans h.c3, (e _).trans h.c4⟩
theorem blk5_new (W : World) (op : Int) (s : ByteArray) (n : Int) (sl : Value) (line : Int) : Blk5 (W.alloc (.cells #[.int .i64 op, .string s, .int .i64 n, sl, .int .i64 line] 24)) W.heap.size op s n sl line := by
  have h := heap_alloc_new W (.cells #[.int .i64 op, .string s, .int .i64 n, sl, .int .i64 line] 24)
  have e : ∀ i, (W.alloc (.cells #[.int .i64 op, .string s, .int .i64 n, sl, .int .i64 line] 24)).cell? ⟨W.heap.size, i, none⟩ = #[.int .i64 op, .string s, .int .i64 n, sl, .int .i64 line][i]? := fun i => cell_of_row _ _ _ _ _ (0, 0) h
  exact ⟨e 0, e 1, e 2, e 3, e 4⟩

set_option maxHeartbeats 2000000 in
theorem size_calls : ∀ (d : Nat) (w : World) (t : Tree) (sl : Value) (left : Int), Kids w d t.l sl → 0 ≤ left → left ≤ 2000 →
    Calls Tryd.prog 43 #[.agg #[.int .i64 t.op, .string t.s, .int .i64 t.n, sl, .int .i64 t.line], .int .i64 left] w fun e w' => e = .returned (.int .i64 (t.size left)) ∧ Below w.heap.size w w'
  | 0, w, t, sl, left, hk, h0, h1 => by
    obtain ⟨hl, A, c, rfl⟩ := hk
    have hs : t.size left = left - 1 := by rw [size_eq, hl]; simp [sizes]
    have HS := Lib.hid hs
    clear hs hl
    go_enter Tryd.func43, Tryd.ntmps43
    go_wp2
    go_loopw [1, 5] (fun l i wr => i = .int .i64 0 ∧ l = .int .i64 (left - 1) ∧ wr = w.alloc (.cells #[.int .i64 t.op, .string t.s, .int .i64 t.n, .slice A 0 c, .int .i64 t.line] 24)) (fun _ _ _ => 0)
    case atStart => exact ⟨rfl, rfl, rfl⟩
    case round =>
      obtain ⟨rfl, rfl, rfl⟩ := hrel
      go_wp2
      go_ret
      exact ⟨by rw [HS.out]; rfl, (Below.refl _ _).alloc (Nat.le_refl _) _⟩
  | d + 1, w, t, sl, left, hk, h0, h1 => by
    have IH := Lib.hid (size_calls d)
    obtain ⟨hl, A, c, rfl, hkids⟩ := hk
    unfold maxLen at hl
    have HK := Lib.hid hkids
    have HS := Lib.hid (size_eq t left)
    have hbox : Hid (Blk5 (w.alloc (.cells #[.int .i64 t.op, .string t.s, .int .i64 t.n, .slice A t.l.length c, .int .i64 t.line] 24)) w.heap.size t.op t.s t.n (.slice A t.l.length c) t.line) := blk5_new _ _ _ _ _ _
    clear hkids
    go_enter Tryd.func43, Tryd.ntmps43
    go_wp2
    go_loopw [1, 5] (fun l i wr => ∃ k : Nat, k ≤ t.l.length ∧ i = .int .i64 k ∧ l = .int .i64 (sizes (t.l.take k) (left - 1)) ∧ Below w.heap.size w wr ∧ Blk5 wr w.heap.size t.op t.s t.n (.slice A t.l.length c) t.line) (fun _ i _ => t.l.length - (intOf i).toNat)
    case atStart => exact ⟨0, by omega, rfl, by simp [sizes], (Below.refl _ _).alloc (Nat.le_refl _) _, hbox.out⟩
    case round =>
      clear hbox
      obtain ⟨k, hk, rfl, rfl, hb, hbx⟩ := hrel
      have HBX := Lib.hid hbx
      have hb3 := hbx.c3
      have HB := Lib.hid hb
      have hcur := sizes_le (t.l.take k) (left := left - 1) (by omega)
      have HNX : Hid (∀ y, t.l[k]? = some y → sizes (t.l.take (k + 1)) (left - 1) = if 0 ≤ sizes (t.l.take k) (left - 1) then y.size (sizes (t.l.take k) (left - 1)) else sizes (t.l.take k) (left - 1)) := by
        refine Lib.hid fun y hy => ?_
        rw [List.take_add_one, hy, sizes_append]
        simp [sizes]
      have HEND : Hid (sizes (t.l.take k) (left - 1) < 0 ∨ k = t.l.length → sizes (t.l.take k) (left - 1) = t.size left) := by
        refine Lib.hid fun h => ?_
        rw [HS.out]
        rcases h with h | h
        · have e := sizes_append (t.l.take k) (t.l.drop k) (left - 1)
          rw [List.take_append_drop] at e
          rw [e, sizes_neg _ h]
        · rw [h, List.take_length]
      generalize sizes (t.l.take k) (left - 1) = cur at hcur HNX HEND
      clear hbx hb
      by_cases hlt : k < t.l.length
      · by_cases hc0 : 0 ≤ cur
        · have hy : t.l[k]? = some t.l[k] := List.getElem?_eq_getElem hlt
          generalize t.l[k] = y at hy
          obtain ⟨a, sl, rfl, hab, hys, c0, c1, c2, c3, c4, hkd⟩ := HK.out k y hy
          have HY := Lib.hid (HNX.out y hy)
          have hbl : ∀ (x : Addr) j, (x.add j).block = x.block := fun x j => by unfold Addr.add; split <;> rfl
          have e : ∀ p : Addr, p.block = a.block → wr.cell? p = w.cell? p := fun p hp => World.cell?_of_block (HB.out.block _ (by rw [hp]; exact hab.1))
          have d0 := (e _ (hbl _ _)).trans c0
          have d1 : wr.cell? ⟨(a.add (k * 5)).block, (a.add (k * 5)).off + 1, none⟩ = some (.string y.s) := (e ((a.add (k * 5)).add 1) ((hbl _ _).trans (hbl _ _))).trans c1
          have d2 : wr.cell? ⟨(a.add (k * 5)).block, (a.add (k * 5)).off + 2, none⟩ = some (.int .i64 y.n) := (e ((a.add (k * 5)).add 2) ((hbl _ _).trans (hbl _ _))).trans c2
          have d3 : wr.cell? ⟨(a.add (k * 5)).block, (a.add (k * 5)).off + 3, none⟩ = some sl := (e ((a.add (k * 5)).add 3) ((hbl _ _).trans (hbl _ _))).trans c3
          have d4 : wr.cell? ⟨(a.add (k * 5)).block, (a.add (k * 5)).off + 4, none⟩ = some (.int .i64 y.line) := (e ((a.add (k * 5)).add 4) ((hbl _ _).trans (hbl _ _))).trans c4
          have HKD := Lib.hid (hkd.below HB.out)
          have hyl := size_le y hc0
          clear c0 c1 c2 c3 c4 hkd e hbl hy
          go_wp2_with fail
          refine (IH.out wr y sl cur HKD.out hc0 (by omega)).mono ?_
          rintro e w' ⟨rfl, hb'⟩
          have HB' := Lib.hid (HB.out.trans (hb'.mono HB.out.size))
          have HBX' := Lib.hid (HBX.out.keep hb')
          clear hb' d0 d1 d2 d3 d4
          go_wp2
          go_roundw
          case rel => exact ⟨k + 1, by omega, by go_num, by rw [HY.out, if_pos hc0], HB'.out, HBX'.out⟩
          case measure => simp [intOf]; omega
        · go_wp2
          go_ret
          exact ⟨by rw [← HEND.out (.inl (by omega))]; rfl, HB.out⟩
      · obtain rfl : k = t.l.length := by omega
        have hd : decide ((t.l.length : Int) < (t.l.length : Int)) = false := by simp
        go_wp2
        go_ret
        exact ⟨by rw [← HEND.out (.inr trivial)]; rfl, HB.out⟩

def Tree.small (t : Tree) : Prop := 0 ≤ t.size 1500
instance (t : Tree) : Decidable t.small := inferInstanceAs (Decidable (0 ≤ t.size 1500))

mutual
def Tree.count : Tree → Nat
  | .node _ _ _ l _ => counts l + 1
def counts : List Tree → Nat
  | [] => 0
  | t :: ts => t.count + counts ts
end
mutual
theorem size_count : ∀ (t : Tree) {left : Int}, 0 ≤ t.size left → t.size left = left - t.count
  | .node _ _ _ l _, left, h => by
    simp only [Tree.size, Tree.count] at h ⊢
    have := sizes_count l h
    omega
theorem sizes_count : ∀ (l : List Tree) {left : Int}, 0 ≤ sizes l left → sizes l left = left - counts l
  | [], left, _ => by simp [sizes, counts]
  | t :: l, left, h => by
    simp only [sizes, counts] at h ⊢
    by_cases h0 : 0 ≤ left
    · rw [if_pos h0] at h ⊢
      have h1 : 0 ≤ t.size left := by
        by_cases h1 : t.size left < 0
        · rw [sizes_neg l h1] at h; omega
        · omega
      rw [sizes_count l h, size_count t h1]
      omega
    · rw [if_neg h0, sizes_neg l (by omega)] at h
      omega
end
theorem Tree.small.count {t : Tree} (h : t.small) : t.count ≤ 1500 := by
  have := size_count t h
  unfold Tree.small at h
  omega

set_option maxHeartbeats 2000000 in
theorem small_calls (d : Nat) (w : World) (t : Tree) (sl : Value) (hk : Kids w d t.l sl) :
    Calls Tryd.prog 18 #[.agg #[.int .i64 t.op, .string t.s, .int .i64 t.n, sl, .int .i64 t.line]] w fun e w' => e = .returned (.int .i64 (if t.small then 1 else 0)) ∧ Below w.heap.size w w' := by
  obtain ⟨w0, hw0⟩ : ∃ w0, w.alloc (.cells #[.int .i64 t.op, .string t.s, .int .i64 t.n, sl, .int .i64 t.line] 24) = w0 := ⟨_, rfl⟩
  have bx : Blk5 w0 w.heap.size t.op t.s t.n sl t.line := by rw [← hw0]; exact blk5_new _ _ _ _ _ _
  have hb0 : Below w.heap.size w w0 := by rw [← hw0]; exact (Below.refl _ _).alloc (Nat.le_refl _) _
  have HK := Lib.hid (hk.below hb0)
  have HB0 := Lib.hid hb0
  obtain ⟨c0, c1, c2, c3, c4⟩ := bx
  clear hk hb0
  by_cases hs : t.small
  · have hs' : 0 ≤ t.size 1500 := hs
    rw [if_pos hs]
    have hd : decide (t.size 1500 < 0) = false := by simp; omega
    clear hs
    go_enter Tryd.func18, Tryd.ntmps18
    go_wp2_with (go_at_call 43; refine (size_calls d w0 t sl 1500 HK.out (by decide) (by decide)).mono ?_; rintro e w' ⟨rfl, hb'⟩; have HB' := Lib.hid hb'; clear hb')
    go_ret
    exact ⟨rfl, HB0.out.trans (HB'.out.mono HB0.out.size)⟩
  · have hs' : t.size 1500 < 0 := by unfold Tree.small at hs; omega
    rw [if_neg hs]
    have hd : decide (t.size 1500 < 0) = true := by simpa using hs'
    clear hs
    go_enter Tryd.func18, Tryd.ntmps18
    go_wp2_with (go_at_call 43; refine (size_calls d w0 t sl 1500 HK.out (by decide) (by decide)).mono ?_; rintro e w' ⟨rfl, hb'⟩; have HB' := Lib.hid hb'; clear hb')
    go_ret
    exact ⟨rfl, HB0.out.trans (HB'.out.mono HB0.out.size)⟩

end Go.Proofs.YtcidccifnaecaaaDoor
