/- The walk of JtreeHigh: true. -/
import Derived.Test.YtcidccifnaecaaaDoorShowW
import Derived.Test.YtcidccifnaecaaaDoorBase
namespace Go.Proofs.YtcidccifnaecaaaDoor
open Go.RowKit Go.Sort

def deepX : Nat → Tree
  | 0 => tId
  | n + 1 => .node 19 ⟨#[]⟩ 0 [deepX n] 0
def deepS : Nat → Tree
  | 0 => .node 32 ⟨#[]⟩ 0 [] 0
  | n + 1 => .node 32 ⟨#[]⟩ 0 [deepS n] 0
theorem deepX_ok : ∀ n, (deepX n).ok
  | 0 => ok_of _ _ _ _ _ (by decide) (by decide) (by decide)
  | n + 1 => ok_of _ _ _ _ _ (by decide) (by decide) (by decide)
theorem deepS_ok : ∀ n, (deepS n).ok
  | 0 => ok_of _ _ _ _ _ (by decide) (by decide) (by decide)
  | n + 1 => ok_of _ _ _ _ _ (by decide) (by decide) (by decide)
theorem deepX_fits : ∀ h n, exprB h (deepX n) = decide (n < h)
  | 0, n => by simp [exprB, fitsB]
  | h + 1, 0 => by
    rw [form_1 h (deepX 0) rfl]
    have h1 : nameB (deepX 0).s.data.toList = true := by decide +kernel
    rw [h1]
    simp [deepX, tId, Tree.n, Tree.l]
  | h + 1, n + 1 => by
    rw [form_19 h (deepX (n + 1)) rfl]
    have h1 := deepX_fits h n
    simp only [deepX, Tree.s, Tree.n, Tree.l, allB, List.all_cons, List.all_nil, h1]
    simp
theorem deepS_fits : ∀ h n, stmtB h (deepS n) = decide (n < h)
  | 0, n => by simp [stmtB, fitsB]
  | h + 1, 0 => by
    rw [form_32 h (deepS 0) rfl (by simp [deepS, Tree.l])]
    simp [deepS, Tree.s, Tree.n, Tree.l]
  | h + 1, n + 1 => by
    rw [form_32 h (deepS (n + 1)) rfl (by simp [deepS, Tree.l])]
    have h1 := deepS_fits h n
    simp only [deepS, Tree.s, Tree.n, Tree.l, List.all_cons, List.all_nil, h1]
    simp
theorem deepX_right (n : Nat) : rightE (deepX n) = decide (n < 100) := deepX_fits 100 n
theorem deepS_op (n : Nat) : (deepS n).op = 32 := by cases n <;> rfl
theorem deepS_right (n : Nat) : rightB (deepS n) = decide (n < 100) := by
  have h := deepS_fits 100 n
  rw [stmtB, deepS_op] at h
  rw [rightB, deepS_op]
  exact h

/-- Trees in memory, none of it in block g. -/
def KidsN (g : Nat) (W : World) : Nat → List Tree → Value → Prop
  | 0, l, v => l = [] ∧ ∃ A c, v = .slice A 0 c
  | d + 1, l, v => l.length ≤ maxLen ∧ ∃ A c, v = .slice A l.length c ∧ ∀ (k : Nat) (t : Tree), l[k]? = some t → ∃ a sl, A = some a ∧ a.block < W.heap.size ∧ a.block ≠ g ∧ t.ok ∧
      W.cell? (a.add (k * 5)) = some (.int .i64 t.op) ∧ W.cell? ((a.add (k * 5)).add 1) = some (.string t.s) ∧ W.cell? ((a.add (k * 5)).add 2) = some (.int .i64 t.n) ∧ W.cell? ((a.add (k * 5)).add 3) = some sl ∧ W.cell? ((a.add (k * 5)).add 4) = some (.int .i64 t.line) ∧ KidsN g W d t.l sl
theorem KidsN.kids {g : Nat} {W : World} : ∀ {d : Nat} {l : List Tree} {v : Value}, KidsN g W d l v → Kids W d l v
  | 0, _, _, h => h
  | d + 1, l, v, h => by
    obtain ⟨hl, A, c, rfl, h⟩ := h
    refine ⟨hl, A, c, rfl, fun k t hk => ?_⟩
    obtain ⟨a, sl, h1, h2, _, h3, h4, h5, h6, h7, h8, h9⟩ := h k t hk
    exact ⟨a, sl, h1, h2, h3, h4, h5, h6, h7, h8, h9.kids⟩
theorem KidsN.keep {g : Nat} {W W' : World} (hs : W.heap.size ≤ W'.heap.size) (hb : ∀ k, k < W.heap.size → k ≠ g → W'.heap[k]? = W.heap[k]?) : ∀ {d : Nat} {l : List Tree} {v : Value}, KidsN g W d l v → KidsN g W' d l v
  | 0, _, _, h => h
  | d + 1, l, v, h => by
    obtain ⟨hl, A, c, rfl, h⟩ := h
    refine ⟨hl, A, c, rfl, fun k t hk => ?_⟩
    obtain ⟨a, sl, rfl, hab, hg, ho, c0, c1, c2, c3, c4, hk'⟩ := h k t hk
    have hbl : ∀ (x : Addr) j, (x.add j).block = x.block := fun x j => by unfold Addr.add; split <;> rfl
    have e : ∀ p : Addr, p.block = a.block → W'.cell? p = W.cell? p := fun p hp => World.cell?_of_block (hb _ (by rw [hp]; exact hab) (by rw [hp]; exact hg))
    exact ⟨a, sl, rfl, Nat.lt_of_lt_of_le hab hs, hg, ho, (e _ (hbl _ _)).trans c0, (e _ (by rw [hbl, hbl])).trans c1, (e _ (by rw [hbl, hbl])).trans c2, (e _ (by rw [hbl, hbl])).trans c3, (e _ (by rw [hbl, hbl])).trans c4, hk'.keep hs hb⟩
theorem kidsN_nil (g : Nat) (W : World) (d : Nat) : KidsN g W d [] (.slice none 0 0) := by
  cases d with
  | zero => exact ⟨rfl, none, 0, rfl⟩
  | succ d => exact ⟨by simp [maxLen], none, 0, rfl, fun k t h => by simp at h⟩
theorem kidsN_one {g : Nat} {W : World} {b d : Nat} {u : Tree} {sl : Value} (hb : Blk5 W b u.op u.s u.n sl u.line) (hne : b ≠ g) (hk : KidsN g W d u.l sl) (hok : u.ok) : KidsN g W (d + 1) [u] (.slice (some ⟨b, 0, none⟩) 1 1) := by
  refine ⟨by simp [maxLen], _, 1, rfl, fun k t hkt => ?_⟩
  match k, hkt with
  | 0, hkt =>
    obtain rfl : t = u := by simpa using hkt.symm
    exact ⟨⟨b, 0, none⟩, sl, rfl, World.block_lt_of_cell? W _ hb.c0, hne, hok, hb.c0, hb.c1, hb.c2, hb.c3, hb.c4, hk⟩
  | k + 1, hkt => simp at hkt

/-- The box g holds the tree t. -/
structure BoxT (w : World) (g : Nat) (t : Tree) (W : World) : Prop where
  box : ∃ sl, Blk W g 24 #[.int .i64 t.op, .string t.s, .int .i64 t.n, sl, .int .i64 t.line] ∧ (∃ A n c, sl = .slice A n c) ∧ ∃ d, KidsN g W d t.l sl
  low : Below w.heap.size w W

theorem box_put {W : World} {g : Nat} {a b c d e : Value} (h : Blk W g 24 #[a, b, c, d, e]) (v0 v1 v2 v3 v4 : Value) : Blk (((((W.setCell ⟨g, 0, none⟩ v0).setCell ⟨g, 1, none⟩ v1).setCell ⟨g, 2, none⟩ v2).setCell ⟨g, 3, none⟩ v3).setCell ⟨g, 4, none⟩ v4) g 24 #[v0, v1, v2, v3, v4] := by
  have h1 := ((((h.set_ 0 v0).set_ 1 v1).set_ 2 v2).set_ 3 v3).set_ 4 v4
  simpa [Array.setIfInBounds] using h1
theorem box_old {W : World} {g k : Nat} (hk : k ≠ g) (v0 v1 v2 v3 v4 : Value) : (((((W.setCell ⟨g, 0, none⟩ v0).setCell ⟨g, 1, none⟩ v1).setCell ⟨g, 2, none⟩ v2).setCell ⟨g, 3, none⟩ v3).setCell ⟨g, 4, none⟩ v4).heap[k]? = W.heap[k]? := by
  rw [Below.heap_setCell _ _ _ _ hk, Below.heap_setCell _ _ _ _ hk, Below.heap_setCell _ _ _ _ hk, Below.heap_setCell _ _ _ _ hk, Below.heap_setCell _ _ _ _ hk]
theorem box_size (W : World) (g : Nat) (v0 v1 v2 v3 v4 : Value) : (((((W.setCell ⟨g, 0, none⟩ v0).setCell ⟨g, 1, none⟩ v1).setCell ⟨g, 2, none⟩ v2).setCell ⟨g, 3, none⟩ v3).setCell ⟨g, 4, none⟩ v4).heap.size = W.heap.size := by simp [World.setCell]
theorem box_low {w W : World} {g : Nat} (h : Below w.heap.size w W) (hg : w.heap.size ≤ g) (v0 v1 v2 v3 v4 : Value) : Below w.heap.size w (((((W.setCell ⟨g, 0, none⟩ v0).setCell ⟨g, 1, none⟩ v1).setCell ⟨g, 2, none⟩ v2).setCell ⟨g, 3, none⟩ v3).setCell ⟨g, 4, none⟩ v4) :=
  ((((h.setCell (p := ⟨g, 0, none⟩) hg _).setCell (p := ⟨g, 1, none⟩) hg _).setCell (p := ⟨g, 2, none⟩) hg _).setCell (p := ⟨g, 3, none⟩) hg _).setCell (p := ⟨g, 4, none⟩) hg _

/-- A node around the tree that the box holds. -/
theorem BoxT.wrap {w wr w8 : World} {g : Nat} {t t' : Tree} {op : Int} {sl : Value} (hg : w.heap.size ≤ g) (hb : Blk wr g 24 #[.int .i64 t.op, .string t.s, .int .i64 t.n, sl, .int .i64 t.line]) (hk : ∃ d, KidsN g wr d t.l sl) (hlow : Below w.heap.size w wr) (hok : t.ok)
    (hw8 : wr.alloc (.cells #[.int .i64 t.op, .string t.s, .int .i64 t.n, sl, .int .i64 t.line] 24) = w8) (ht : t' = .node op ⟨#[]⟩ 0 [t] 0) :
    BoxT w g t' (((((w8.setCell ⟨g, 0, none⟩ (.int .i64 op)).setCell ⟨g, 1, none⟩ (.string ⟨#[]⟩)).setCell ⟨g, 2, none⟩ (.int .i64 0)).setCell ⟨g, 3, none⟩ (.slice (some ⟨wr.heap.size, 0, none⟩) 1 1)).setCell ⟨g, 4, none⟩ (.int .i64 0)) := by
  obtain ⟨d, hk⟩ := hk
  have hlt := hb.lt
  have h5 : Blk5 w8 wr.heap.size t.op t.s t.n sl t.line := by rw [← hw8]; exact blk5_new _ _ _ _ _ _
  have hb8 : Blk w8 g 24 #[.int .i64 t.op, .string t.s, .int .i64 t.n, sl, .int .i64 t.line] := by rw [← hw8]; exact hb.alloc _
  have hal : Below wr.heap.size wr w8 := by rw [← hw8]; exact (Below.refl _ _).alloc (Nat.le_refl _) _
  subst ht
  refine ⟨⟨_, box_put hb8 _ _ _ _ _, ⟨_, _, _, rfl⟩, d + 1, ?_⟩, box_low (hlow.trans (hal.mono hlow.size)) hg _ _ _ _ _⟩
  have hk8 : KidsN g w8 d t.l sl := hk.keep hal.size (fun k hk _ => hal.block k hk)
  have h1 := kidsN_one h5 (by omega) hk8 hok
  exact h1.keep (by rw [box_size]; exact Nat.le_refl _) (fun k _ hne => box_old hne _ _ _ _ _)

theorem deepX_line (n : Nat) : (deepX n).line = 0 := by cases n <;> rfl

set_option maxRecDepth 100000 in
set_option maxHeartbeats 1600000 in
theorem whigh (w : World) (n : Int) (hl : Laid w) : Calls Tryd.prog 6 #[.int .i64 n] w fun e w' => e = .returned (.bool true) ∧ Below w.heap.size w w' := by
  have HL := Lib.hid hl
  clear hl
  go_enter Tryd.func6, Tryd.ntmps6
  go_wp2_with fail
  refine (shown_calls w HL.out).mono ?_
  rintro e w1 ⟨rfl, hb1⟩
  have HB1 := Lib.hid hb1
  clear hb1
  cases hlo : decide (n < 90) with
  | true =>
    go_wp2
    go_ret
    exact ⟨rfl, HB1.out⟩
  | false =>
  cases hhi : decide (110 < n) with
  | true =>
    go_wp2
    go_ret
    exact ⟨rfl, HB1.out⟩
  | false =>
  have hn1 : 90 ≤ n := by have := of_decide_eq_false hlo; omega
  have hn2 : n ≤ 110 := by have := of_decide_eq_false hhi; omega
  go_wp2_with fail
  refine (id_calls _ _).mono ?_
  rintro e w2 ⟨rfl, hb2⟩
  have HB2 := Lib.hid (HB1.out.trans (hb2.mono HB1.out.size))
  clear hb2
  have hg0 : w.heap.size ≤ w2.heap.size := HB2.out.size
  go_wp2
  have hbx : BoxT w w2.heap.size (deepX 0) (w2.alloc (.cells #[.int .i64 1, .string ⟨#[97]⟩, .int .i64 0, .slice none 0 0, .int .i64 0] 24)) :=
    ⟨⟨_, Blk.new _ _ _, ⟨_, _, _, rfl⟩, 0, kidsN_nil _ _ 0⟩, HB2.out.alloc HB2.out.size _⟩
  generalize w2.alloc (.cells #[.int .i64 1, .string ⟨#[97]⟩, .int .i64 0, .slice none 0 0, .int .i64 0] 24) = w3 at hbx ⊢
  have HBX := Lib.hid hbx
  clear hbx
  go_loopw [5] (fun i wr => ∃ j : Nat, (j : Int) + 1 ≤ n ∧ i = .int .i64 ((j : Int) + 1) ∧ BoxT w w2.heap.size (deepX j) wr) (fun i _ => n.toNat - (intOf i).toNat)
  case atStart => exact ⟨0, by omega, rfl, HBX.out⟩
  case round =>
    obtain ⟨j, hj, rfl, hbx⟩ := hrel
    obtain ⟨⟨sl, hblk, ⟨A, m, c, rfl⟩, hkn⟩, hlow⟩ := hbx
    have HBLK := Lib.hid hblk
    have HKN := Lib.hid hkn
    have HLOW := Lib.hid hlow
    clear hlow hkn
    cases hlt : decide ((j : Int) + 1 < n) with
    | true =>
      have hlt' := of_decide_eq_true hlt
      obtain ⟨w8, hw8⟩ : ∃ w8, wr.alloc (.cells #[.int .i64 (deepX j).op, .string (deepX j).s, .int .i64 (deepX j).n, .slice A m c, .int .i64 (deepX j).line] 24) = w8 := ⟨_, rfl⟩
      have HW := Lib.hid (BoxT.wrap (op := 19) (t' := deepX (j + 1)) hg0 HBLK.out HKN.out HLOW.out (deepX_ok j) hw8 rfl)
      have c0 := hblk.cell 0
      have c1 := hblk.cell 1
      have c2 := hblk.cell 2
      have c3 := hblk.cell 3
      have c4 := hblk.cell 4
      have hb8 : Blk w8 w2.heap.size 24 #[.int .i64 (deepX j).op, .string (deepX j).s, .int .i64 (deepX j).n, .slice A m c, .int .i64 (deepX j).line] := by rw [← hw8]; exact hblk.alloc _
      have e0 := hb8.cell 0
      have e1 := hb8.cell 1
      have e2 := hb8.cell 2
      have e3 := hb8.cell 3
      have e4 := hb8.cell 4
      have f0 := hb8.frozen 0
      have f1 := hb8.frozen 1
      have f2 := hb8.frozen 2
      have f3 := hb8.frozen 3
      have f4 := hb8.frozen 4
      clear hblk hb8
      go_wp2
      go_roundw
      case rel => exact ⟨j + 1, by omega, by go_num, HW.out⟩
      case measure => simp [intOf]; omega
    | false =>
      have hge := of_decide_eq_false hlt
      have hjn : n = (j : Int) + 1 := by omega
      obtain ⟨wa, hwa⟩ : ∃ z, z = wr := ⟨_, rfl⟩
      subst hwa
      have hlt0 := hblk.lt
      have HJN := Lib.hid hjn
      clear hblk hjn hge
      go_wp2
      have hbx : BoxT wa wa.heap.size (deepS 0) (wa.alloc (.cells #[.int .i64 32, .string ⟨#[]⟩, .int .i64 0, .slice none 0 0, .int .i64 0] 24)) :=
        ⟨⟨_, Blk.new _ _ _, ⟨_, _, _, rfl⟩, 0, kidsN_nil _ _ 0⟩, (Below.refl _ _).alloc (Nat.le_refl _) _⟩
      generalize wa.alloc (.cells #[.int .i64 32, .string ⟨#[]⟩, .int .i64 0, .slice none 0 0, .int .i64 0] 24) = w4 at hbx ⊢
      have HBY := Lib.hid hbx
      clear hbx
      clear hlt hj
      go_loopw [7] (fun i wr => ∃ k : Nat, (k : Int) + 1 ≤ n ∧ i = .int .i64 ((k : Int) + 1) ∧ BoxT wa wa.heap.size (deepS k) wr) (fun i _ => n.toNat - (intOf i).toNat)
      case atStart => exact ⟨0, by omega, rfl, HBY.out⟩
      case round =>
        obtain ⟨k, hj, rfl, hbx⟩ := hrel
        obtain ⟨⟨sl2, hblk, ⟨A2, m2, cq, rfl⟩, hkn⟩, hlow⟩ := hbx
        have HBLK2 := Lib.hid hblk
        have HKN2 := Lib.hid hkn
        have HLOW2 := Lib.hid hlow
        clear hlow hkn
        cases hlt : decide ((k : Int) + 1 < n) with
        | true =>
          have hlt' := of_decide_eq_true hlt
          obtain ⟨w8, hw8⟩ : ∃ w8, wr.alloc (.cells #[.int .i64 (deepS k).op, .string (deepS k).s, .int .i64 (deepS k).n, .slice A2 m2 cq, .int .i64 (deepS k).line] 24) = w8 := ⟨_, rfl⟩
          have HW := Lib.hid (BoxT.wrap (op := 32) (t' := deepS (k + 1)) (Nat.le_refl _) HBLK2.out HKN2.out HLOW2.out (deepS_ok k) hw8 rfl)
          have c0 := hblk.cell 0
          have c1 := hblk.cell 1
          have c2 := hblk.cell 2
          have c3 := hblk.cell 3
          have c4 := hblk.cell 4
          have hb8 : Blk w8 wa.heap.size 24 #[.int .i64 (deepS k).op, .string (deepS k).s, .int .i64 (deepS k).n, .slice A2 m2 cq, .int .i64 (deepS k).line] := by rw [← hw8]; exact hblk.alloc _
          have e0 := hb8.cell 0
          have e1 := hb8.cell 1
          have e2 := hb8.cell 2
          have e3 := hb8.cell 3
          have e4 := hb8.cell 4
          have f0 := hb8.frozen 0
          have f1 := hb8.frozen 1
          have f2 := hb8.frozen 2
          have f3 := hb8.frozen 3
          have f4 := hb8.frozen 4
          clear hblk hb8
          go_wp2
          go_roundw
          case rel => exact ⟨k + 1, by omega, by go_num, HW.out⟩
          case measure => simp [intOf]; omega
        | false =>
          have hge2 := of_decide_eq_false hlt
          have hjn := HJN.out
          have hkn2 : k = j := by omega
          subst hkn2
          obtain ⟨d1, hk1⟩ := HKN.out
          obtain ⟨d2, hk2⟩ := HKN2.out
          have HL9 := Lib.hid (HL.out.below (HLOW.out.trans (HLOW2.out.mono HLOW.out.size)))
          have HX := Lib.hid (hk1.kids.below HLOW2.out)
          have HY := Lib.hid hk2.kids
          obtain ⟨x0, x1, x2, x3, x4⟩ : Blk5 wr w2.heap.size (deepX k).op (deepX k).s (deepX k).n (.slice A m c) (deepX k).line :=
            (Blk5.keep ⟨HBLK.out.cell 0, HBLK.out.cell 1, HBLK.out.cell 2, HBLK.out.cell 3, HBLK.out.cell 4⟩ HLOW2.out)
          have hltY := hblk.lt
          have y0 := hblk.cell 0
          have y1 := hblk.cell 1
          have y2 := hblk.cell 2
          have y3 := hblk.cell 3
          have y4 := hblk.cell 4
          have H1 := Lib.hid (fun w9 (hb9 : Below wr.heap.size wr w9) => rightExpr_calls d1 w9 (deepX k) _ (HL9.out.below hb9) (HX.out.below hb9) (deepX_ok k))
          have H2 := Lib.hid (fun w9 (hb9 : Below wr.heap.size wr w9) => right_calls d2 w9 (deepS k) _ (HL9.out.below hb9) (HY.out.below hb9) (deepS_ok k))
          simp only [deepX_right, deepS_right] at H1 H2
          clear hk1 hk2 hblk hlt HJN
          subst hjn
          have hnn : decide ((k : Int) + 1 ≤ 100) = decide (k < 100) := by
            by_cases h : k < 100
            · rw [decide_eq_true h, decide_eq_true (by omega)]
            · rw [decide_eq_false h, decide_eq_false (by omega)]
          cases hb : decide (k < 100)
          all_goals
            rw [hb] at hnn
            simp only [hb] at H1 H2
            go_wp2_with fail
            refine (H1.out _ (Below.refl _ _)).mono ?_
            rintro e w5 ⟨rfl, hb5⟩
            have y0 := (World.cell?_of_block (hb5.block _ hltY)).trans y0
            have y1 := (World.cell?_of_block (hb5.block _ hltY)).trans y1
            have y2 := (World.cell?_of_block (hb5.block _ hltY)).trans y2
            have y3 := (World.cell?_of_block (hb5.block _ hltY)).trans y3
            have y4 := (World.cell?_of_block (hb5.block _ hltY)).trans y4
            have HB5 := Lib.hid hb5
            clear hb5
            go_wp2_with fail
            refine (H2.out _ HB5.out).mono ?_
            rintro e w6 ⟨rfl, hb6⟩
            have HB6 := Lib.hid (HB5.out.trans (hb6.mono HB5.out.size))
            clear hb6
            go_wp2
            go_ret
            exact ⟨rfl, (HLOW.out.trans (HLOW2.out.mono HLOW.out.size)).trans (HB6.out.mono (HLOW.out.trans (HLOW2.out.mono HLOW.out.size)).size)⟩

end Go.Proofs.YtcidccifnaecaaaDoor
