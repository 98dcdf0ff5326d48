/- The closure of JtreeWalks, walked: a node behind those that were got. -/
import Derived.Test.YtcidccifnaecaaaDoorFlat
import Derived.Deep.AppendLies
import Derived.Deep.Onto
import Derived.Deep.RegionHeld3
import Derived.Deep.RegionLaw
import Derived.Deep.QuietTactic
import Derived.BigQuiet
import Derived.Lib.Hide
namespace Go.Proofs.YtcidccifnaecaaaDoor
open Go.RowKit

theorem blk_app {w0 w1 : World} {g : Nat} {t : TypeId} {cs : Array Value} {row : Option Nat} (h : Blk w0 g t cs) {X : Obj} (hgr : ((w0.alloc X).drew).grownBy w1 row) (hne : some g ≠ row) : Blk w1 g t cs :=
  Blk.grown (w := (w0.alloc X).drew) (h.alloc X) hgr hne

theorem app_cell {w1 : World} {B g1 cap1 : Nat} {ps : List (Tree × Value)} {zs : List Value} (h : w1.ownsRow B 24 5 (.slice (some ⟨g1, 0, none⟩) (ps.length + 1) cap1) (ps.length + 1) (nodeCells ps ++ zs)) (j : Nat) (hj : j < 5) :
    w1.cell? ⟨g1, ps.length * 5 + j, none⟩ = zs[j]? := by
  rw [World.ownsRow.cellAt h (ps.length * 5 + j) (by omega), List.getElem?_append_right (by rw [nodeCells_len]; omega), nodeCells_len]
  congr 1
  omega

theorem sc3 (w : World) (p : Addr) (v : Value) {a : World} (h : w.os = a.os ∧ w.tape = a.tape ∧ w.output = a.output) : (w.setCell p v).os = a.os ∧ (w.setCell p v).tape = a.tape ∧ (w.setCell p v).output = a.output := h
theorem set_app (a b : List Value) (n j : Nat) (hn : a.length = n) (u : Value) : (a ++ b).set (n + j) u = a ++ b.set j u := by
  subst hn
  rw [List.set_append_right _ _ (by omega)]
  congr 1
  congr 1
  omega
theorem row_put {w1 : World} {B g1 cap1 : Nat} {ps : List (Tree × Value)} {z0 z1 z2 z3 z4 : Value} {x : Tree} {A0 : Option Addr} {n0 c0 : Nat} (h : w1.ownsRow B 24 5 (.slice (some ⟨g1, 0, none⟩) (ps.length + 1) cap1) (ps.length + 1) (nodeCells ps ++ [z0, z1, z2, z3, z4])) :
    (((((w1.setCell ⟨g1, ps.length * 5, none⟩ (.int .i64 x.op)).setCell ⟨g1, ps.length * 5 + 1, none⟩ (.string x.s)).setCell ⟨g1, ps.length * 5 + 2, none⟩ (.int .i64 x.n)).setCell ⟨g1, ps.length * 5 + 3, none⟩ (.slice A0 n0 c0)).setCell ⟨g1, ps.length * 5 + 4, none⟩ (.int .i64 x.line)).ownsRow B 24 5 (.slice (some ⟨g1, 0, none⟩) (ps.length + 1) cap1) (ps.length + 1) (nodeCells (ps ++ [(x, .slice A0 n0 c0)])) := by
  have hl := nodeCells_len ps
  have h0 := (World.ownsRow.stored h (ps.length * 5) (.int .i64 x.op)).1
  rw [show ps.length * 5 = ps.length * 5 + 0 from rfl, set_app _ _ _ 0 hl] at h0
  have h1 := (World.ownsRow.stored h0 (ps.length * 5 + 1) (.string x.s)).1
  rw [set_app _ _ _ 1 hl] at h1
  have h2 := (World.ownsRow.stored h1 (ps.length * 5 + 2) (.int .i64 x.n)).1
  rw [set_app _ _ _ 2 hl] at h2
  have h3 := (World.ownsRow.stored h2 (ps.length * 5 + 3) (.slice A0 n0 c0)).1
  rw [set_app _ _ _ 3 hl] at h3
  have h4 := (World.ownsRow.stored h3 (ps.length * 5 + 4) (.int .i64 x.line)).1
  rw [set_app _ _ _ 4 hl] at h4
  rw [nodeCells_append]
  exact h4
theorem put_old (w1 : World) (g1 : Nat) (ps : List (Tree × Value)) (x : Tree) (A0 : Option Addr) (n0 c0 : Nat) {k : Nat} (hk : k ≠ g1) : (((((w1.setCell ⟨g1, ps.length * 5, none⟩ (.int .i64 x.op)).setCell ⟨g1, ps.length * 5 + 1, none⟩ (.string x.s)).setCell ⟨g1, ps.length * 5 + 2, none⟩ (.int .i64 x.n)).setCell ⟨g1, ps.length * 5 + 3, none⟩ (.slice A0 n0 c0)).setCell ⟨g1, ps.length * 5 + 4, none⟩ (.int .i64 x.line)).heap[k]? = w1.heap[k]? := by
  rw [Below.heap_setCell _ _ _ _ hk, Below.heap_setCell _ _ _ _ hk, Below.heap_setCell _ _ _ _ hk, Below.heap_setCell _ _ _ _ hk, Below.heap_setCell _ _ _ _ hk]

/-- What the closure leaves: one node more. -/
structure Pushed (w : World) (B g hn : Nat) (old : Value) (n : Int) (ps : List (Tree × Value)) (w' : World) : Prop where
  row : ∃ A cap, Blk w' g 22 #[.slice A ps.length cap] ∧ w'.ownsRow B 24 5 (.slice A ps.length cap) ps.length (nodeCells ps) ∧ (∀ k, (Value.slice A ps.length cap).ownBlock = some k → old.ownBlock = some k ∨ w.heap.size ≤ k)
  lim : Blk w' hn 3 #[.int .i64 n]
  turn : Turn (fun k => k = g ∨ old.ownBlock = some k) w w'

section
variable {w w0 w1 : World} {B g hn g1 cap cap1 : Nat} {A A0 : Option Addr} {n0 c0 : Nat} {x : Tree} {ps : List (Tree × Value)} {n : Int} {X : Obj}
theorem pushed_of (hT : Turn (fun _ => False) w w0) (hh : Blk w0 hn 3 #[.int .i64 n])
    (hap : ∀ k, (Value.slice A ps.length cap).ownBlock = some k → k ≠ g ∧ k ≠ hn) (hgh : hn ≠ g) (hgr : ((w0.alloc X).drew).grownBy w1 (Value.slice A ps.length cap).ownBlock)
    (hat : (Value.slice A ps.length cap).ownBlock = some g1 ∨ g1 = w.heap.size + 1 + 1) (hsz : w0.heap.size = w.heap.size + 1)
    {W : World} (hrow : W.ownsRow B 24 5 (.slice (some ⟨g1, 0, none⟩) (ps.length + 1) cap1) (ps.length + 1) (nodeCells (ps ++ [(x, .slice A0 n0 c0)]))) (hbg : Blk W g 22 #[(.slice (some ⟨g1, 0, none⟩) (ps.length + 1) cap1)])
    (hold : ∀ k, k ≠ g → k ≠ g1 → W.heap[k]? = w1.heap[k]?) (hs : W.heap.size = w1.heap.size) (ho : W.os = w1.os ∧ W.tape = w1.tape ∧ W.output = w1.output) :
    Pushed w B g hn (.slice A ps.length cap) n (ps ++ [(x, .slice A0 n0 c0)]) W := by
  have hg1n : g1 ≠ hn := by
    rcases hat with h | h
    · exact (hap _ h).2
    · have := hh.lt; omega
  have hT1 : Turn (fun k => (Value.slice A ps.length cap).ownBlock = some k) w w1 := Turn.grown ((hT.mono (fun _ _ e => e.elim)).alloc X).drew hgr (fun k _ e => e)
  refine ⟨⟨_, cap1, by simpa using hbg, by simpa using hrow, fun k hk => ?_⟩, (blk_app hh hgr (fun e => (hap _ e.symm).2 rfl)).keep (hold _ hgh (Ne.symm hg1n)), ⟨ho.1.trans hT1.os, ho.2.1.trans hT1.tape, ho.2.2.trans hT1.output, by rw [hs]; exact hT1.size, fun k hk hf => ?_⟩⟩
  · obtain rfl : g1 = k := by simpa [Value.ownBlock] using hk
    exact hat.imp id (fun e => by omega)
  · have h1 : k ≠ g := fun e => hf (.inl e)
    have h2 : ¬ (Value.slice A ps.length cap).ownBlock = some k := fun e => hf (.inr e)
    have h3 : k ≠ g1 := by
      rintro rfl
      rcases hat with h | h
      · exact h2 h
      · omega
    rw [hold k h1 h3, hT1.block k hk h2]
theorem pushed_a (hT : Turn (fun _ => False) w w0) (hg : Blk w0 g 22 #[.slice A ps.length cap]) (hh : Blk w0 hn 3 #[.int .i64 n])
    (hap : ∀ k, (Value.slice A ps.length cap).ownBlock = some k → k ≠ g ∧ k ≠ hn) (hgh : hn ≠ g) (hgr : ((w0.alloc X).drew).grownBy w1 (Value.slice A ps.length cap).ownBlock)
    (hat : (Value.slice A ps.length cap).ownBlock = some g1 ∨ g1 = w.heap.size + 1 + 1) (hsz : w0.heap.size = w.heap.size + 1)
    {z0 z1 z2 z3 z4 : Value} (hown : w1.ownsRow B 24 5 (.slice (some ⟨g1, 0, none⟩) (ps.length + 1) cap1) (ps.length + 1) (nodeCells ps ++ [z0, z1, z2, z3, z4])) (hgg : g1 ≠ g) :
    Pushed w B g hn (.slice A ps.length cap) n (ps ++ [(x, .slice A0 n0 c0)]) ((((((w1.setCell ⟨g1, ps.length * 5, none⟩ (.int .i64 x.op)).setCell ⟨g1, ps.length * 5 + 1, none⟩ (.string x.s)).setCell ⟨g1, ps.length * 5 + 2, none⟩ (.int .i64 x.n)).setCell ⟨g1, ps.length * 5 + 3, none⟩ (.slice A0 n0 c0)).setCell ⟨g1, ps.length * 5 + 4, none⟩ (.int .i64 x.line)).setCell ⟨g, 0, none⟩ (.slice (some ⟨g1, 0, none⟩) (ps.length + 1) cap1)) := by
  have hr := row_put (x := x) (A0 := A0) (n0 := n0) (c0 := c0) hown
  refine pushed_of hT hh hap hgh hgr hat hsz (own_keep hr fun k hk => ?_) ?_ (fun k h1 h2 => ?_) (by simp [World.setCell]) (sc3 _ _ _ (sc3 _ _ _ (sc3 _ _ _ (sc3 _ _ _ (sc3 _ _ _ (sc3 _ _ _ ⟨rfl, rfl, rfl⟩))))))
  · obtain rfl : g1 = k := by simpa [Value.ownBlock] using hk
    exact Below.heap_setCell _ _ _ _ hgg
  · have hb : Blk (((((w1.setCell ⟨g1, ps.length * 5, none⟩ (.int .i64 x.op)).setCell ⟨g1, ps.length * 5 + 1, none⟩ (.string x.s)).setCell ⟨g1, ps.length * 5 + 2, none⟩ (.int .i64 x.n)).setCell ⟨g1, ps.length * 5 + 3, none⟩ (.slice A0 n0 c0)).setCell ⟨g1, ps.length * 5 + 4, none⟩ (.int .i64 x.line)) g 22 #[.slice A ps.length cap] := (blk_app hg hgr (fun e => (hap _ e.symm).1 rfl)).keep (put_old _ _ _ _ _ _ _ (Ne.symm hgg))
    simpa using hb.set_ 0 (.slice (some ⟨g1, 0, none⟩) (ps.length + 1) cap1)
  · rw [Below.heap_setCell _ _ _ _ h1, put_old _ _ _ _ _ _ _ h2]
theorem pushed_b (hT : Turn (fun _ => False) w w0) (hg : Blk w0 g 22 #[.slice A ps.length cap]) (hh : Blk w0 hn 3 #[.int .i64 n])
    (hap : ∀ k, (Value.slice A ps.length cap).ownBlock = some k → k ≠ g ∧ k ≠ hn) (hgh : hn ≠ g) (hgr : ((w0.alloc X).drew).grownBy w1 (Value.slice A ps.length cap).ownBlock)
    (hat : (Value.slice A ps.length cap).ownBlock = some g1 ∨ g1 = w.heap.size + 1 + 1) (hsz : w0.heap.size = w.heap.size + 1)
    {z0 z1 z2 z3 z4 : Value} (hown : w1.ownsRow B 24 5 (.slice (some ⟨g1, 0, none⟩) (ps.length + 1) cap1) (ps.length + 1) (nodeCells ps ++ [z0, z1, z2, z3, z4])) (hgg : g1 ≠ g) :
    Pushed w B g hn (.slice A ps.length cap) n (ps ++ [(x, .slice A0 n0 c0)]) ((((((w1.setCell ⟨g, 0, none⟩ (.slice (some ⟨g1, 0, none⟩) (ps.length + 1) cap1)).setCell ⟨g1, ps.length * 5, none⟩ (.int .i64 x.op)).setCell ⟨g1, ps.length * 5 + 1, none⟩ (.string x.s)).setCell ⟨g1, ps.length * 5 + 2, none⟩ (.int .i64 x.n)).setCell ⟨g1, ps.length * 5 + 3, none⟩ (.slice A0 n0 c0)).setCell ⟨g1, ps.length * 5 + 4, none⟩ (.int .i64 x.line)) := by
  have hown' : (w1.setCell ⟨g, 0, none⟩ (.slice (some ⟨g1, 0, none⟩) (ps.length + 1) cap1)).ownsRow B 24 5 (.slice (some ⟨g1, 0, none⟩) (ps.length + 1) cap1) (ps.length + 1) (nodeCells ps ++ [z0, z1, z2, z3, z4]) := own_keep hown fun k hk => by
    obtain rfl : g1 = k := by simpa [Value.ownBlock] using hk
    exact Below.heap_setCell _ _ _ _ hgg
  have hr := row_put (x := x) (A0 := A0) (n0 := n0) (c0 := c0) hown'
  refine pushed_of hT hh hap hgh hgr hat hsz hr ?_ (fun k h1 h2 => ?_) (by simp [World.setCell]) (sc3 _ _ _ (sc3 _ _ _ (sc3 _ _ _ (sc3 _ _ _ (sc3 _ _ _ (sc3 _ _ _ ⟨rfl, rfl, rfl⟩))))))
  · have hb : Blk w1 g 22 #[.slice A ps.length cap] := blk_app hg hgr (fun e => (hap _ e.symm).1 rfl)
    have hb2 : Blk (w1.setCell ⟨g, 0, none⟩ (.slice (some ⟨g1, 0, none⟩) (ps.length + 1) cap1)) g 22 #[(.slice (some ⟨g1, 0, none⟩) (ps.length + 1) cap1)] := by simpa using hb.set_ 0 (.slice (some ⟨g1, 0, none⟩) (ps.length + 1) cap1)
    exact hb2.keep (put_old _ _ _ _ _ _ _ (Ne.symm hgg))
  · rw [put_old _ _ _ _ _ _ _ h2, Below.heap_setCell _ _ _ _ h1]
end

set_option maxRecDepth 100000 in
set_option maxHeartbeats 800000 in
theorem push_calls (w : World) (B g hn : Nat) (x : Tree) (A0 : Option Addr) (n0 c0 : Nat) (A : Option Addr) (cap : Nat) (ps : List (Tree × Value)) (n : Int)
    (hg : Blk w g 22 #[.slice A ps.length cap]) (hh : Blk w hn 3 #[.int .i64 n]) (hown : w.ownsRow B 24 5 (.slice A ps.length cap) ps.length (nodeCells ps)) (hgh : hn ≠ g) (hlen : ps.length ≤ 1073741824) (hB : B ≤ w.heap.size) :
    Calls Tryd.prog 32 #[.agg #[.int .i64 x.op, .string x.s, .int .i64 x.n, .slice A0 n0 c0, .int .i64 x.line], .pointer (some ⟨g, 0, none⟩), .pointer (some ⟨hn, 0, none⟩)] w fun e w' =>
      e = .returned (.bool (decide ((ps.length : Int) + 1 < n))) ∧ Pushed w B g hn (.slice A ps.length cap) n (ps ++ [(x, .slice A0 n0 c0)]) w' := by
  obtain ⟨i0, hi0, hz0, hz1, hz2⟩ := info_parts info_node
  obtain ⟨w0, hw0⟩ : ∃ w0, w.alloc (.cells #[.int .i64 x.op, .string x.s, .int .i64 x.n, .slice A0 n0 c0, .int .i64 x.line] 24) = w0 := ⟨_, rfl⟩
  have hx : Blk w0 w.heap.size 24 #[.int .i64 x.op, .string x.s, .int .i64 x.n, .slice A0 n0 c0, .int .i64 x.line] := by rw [← hw0]; exact Blk.new _ _ _
  have hg0 : Blk w0 g 22 #[.slice A ps.length cap] := by rw [← hw0]; exact hg.alloc _
  have hh0 : Blk w0 hn 3 #[.int .i64 n] := by rw [← hw0]; exact hh.alloc _
  have hown0 : w0.ownsRow B 24 5 (.slice A ps.length cap) ps.length (nodeCells ps) := by rw [← hw0]; exact hown.alloc _
  have hsz0 : w0.heap.size = w.heap.size + 1 := by rw [← hw0]; simp
  have HR := Lib.hid hown0
  have HG := Lib.hid hg0
  have HH := Lib.hid hh0
  have hx0 := hx.cell 0
  have hx1 := hx.cell 1
  have hx2 := hx.cell 2
  have hx3 := hx.cell 3
  have hx4 := hx.cell 4
  have hc := hg0.cell 0
  have hf := hg0.frozen 0
  have hltg := hg.lt
  have hlth := hh.lt
  have hapart : ∀ k, (Value.slice A ps.length cap).ownBlock = some k → k ≠ g ∧ k ≠ hn := fun k hk => by
    obtain ⟨cur, hb⟩ := own_blk hown hk
    refine ⟨fun e => ?_, fun e => ?_⟩
    · subst e; exact absurd (hb.eq hg).1 (by decide)
    · subst e; exact absurd (hb.eq hh).1 (by decide)
  have HAP := Lib.hid hapart
  have HT : Hid (Turn (fun _ => False) w w0) := Lib.hid (by rw [← hw0]; exact (Turn.refl _ _).alloc _)
  clear hown hg hh hown0 hg0 hh0 hx hapart
  go_enter Tryd.func32, Tryd.ntmps32
  go_wp2
  clear hw0
  have hix : (ps.length : Int) < (ps.length : Int) + 1 := by omega
  go_region_law ((refine step_append_lies _ (by rfl) _ _ _ (by rfl) B 24 i0 _ 5 64 Tryd.underlying22 hi0 hz0 hz1 hz2 rfl (by omega) (.slice A ps.length cap) _ (nodeCells ps) (by rfl) (by exact ((HR.out.alloc _))) ⟨w.heap.size + 1, 0, none⟩ 1 1 [.int .i64 0, .string ⟨#[]⟩, .int .i64 0, .slice none 0 0, .int .i64 0] (by rfl) (by rfl) (World.news_of_block (cs := #[.int .i64 0, .string ⟨#[]⟩, .int .i64 0, .slice none 0 0, .int .i64 0]) (t := 24) (fr := (0, 0)) (by rw [← hsz0]; exact heap_alloc_new w0 _)) (by simp [Value.oneCell']) (by omega) (by simp only [maxLen]; omega) (by omega) (by simp; omega) (w.heap.size + 1 + 1) (by simp; omega) ?_; intro g1 cap1 w1 hown1 hgrow1 hat1 hlt1; have hfA : w1.frozen? ⟨g, 0, none⟩ = false := (blk_app HG.out hgrow1 (fun e => (HAP.out _ e.symm).1 rfl)).frozen 0; have hcA : w1.cell? ⟨g, 0, none⟩ = some (.slice A ps.length cap) := (blk_app HG.out hgrow1 (fun e => (HAP.out _ e.symm).1 rfl)).cell 0; have hgg : g1 ≠ g := (by rcases hat1 with h | h; exact (HAP.out _ h).1; omega); have hk0 : w1.cell? ⟨g1, ps.length * 5, none⟩ = some (.int .i64 0) := app_cell hown1 0 (by omega); have hk1 : w1.cell? ⟨g1, ps.length * 5 + 1, none⟩ = some (.string ⟨#[]⟩) := app_cell hown1 1 (by omega); have hk2 : w1.cell? ⟨g1, ps.length * 5 + 2, none⟩ = some (.int .i64 0) := app_cell hown1 2 (by omega); have hk3 : w1.cell? ⟨g1, ps.length * 5 + 3, none⟩ = some (.slice none 0 0) := app_cell hown1 3 (by omega); have hk4 : w1.cell? ⟨g1, ps.length * 5 + 4, none⟩ = some (.int .i64 0) := app_cell hown1 4 (by omega); have hf0 := World.ownsRow.frozenAt hown1 (ps.length * 5); have hf1 := World.ownsRow.frozenAt hown1 (ps.length * 5 + 1); have hf2 := World.ownsRow.frozenAt hown1 (ps.length * 5 + 2); have hf3 := World.ownsRow.frozenAt hown1 (ps.length * 5 + 3); have hf4 := World.ownsRow.frozenAt hown1 (ps.length * 5 + 4)))
  all_goals
    first
      | (have HP := Lib.hid (pushed_a (x := x) (A0 := A0) (n0 := n0) (c0 := c0) HT.out HG.out HH.out HAP.out hgh hgrow1 hat1 hsz0 hown1 hgg)
         obtain ⟨W, hW⟩ : ∃ W, ((((((w1.setCell ⟨g1, ps.length * 5, none⟩ (.int .i64 x.op)).setCell ⟨g1, ps.length * 5 + 1, none⟩ (.string x.s)).setCell ⟨g1, ps.length * 5 + 2, none⟩ (.int .i64 x.n)).setCell ⟨g1, ps.length * 5 + 3, none⟩ (.slice A0 n0 c0)).setCell ⟨g1, ps.length * 5 + 4, none⟩ (.int .i64 x.line)).setCell ⟨g, 0, none⟩ (.slice (some ⟨g1, 0, none⟩) (ps.length + 1) cap1)) = W := ⟨_, rfl⟩
         rw [hW] at HP ⊢
         clear hW)
      | (have HP := Lib.hid (pushed_b (x := x) (A0 := A0) (n0 := n0) (c0 := c0) HT.out HG.out HH.out HAP.out hgh hgrow1 hat1 hsz0 hown1 hgg)
         obtain ⟨W, hW⟩ : ∃ W, ((((((w1.setCell ⟨g, 0, none⟩ (.slice (some ⟨g1, 0, none⟩) (ps.length + 1) cap1)).setCell ⟨g1, ps.length * 5, none⟩ (.int .i64 x.op)).setCell ⟨g1, ps.length * 5 + 1, none⟩ (.string x.s)).setCell ⟨g1, ps.length * 5 + 2, none⟩ (.int .i64 x.n)).setCell ⟨g1, ps.length * 5 + 3, none⟩ (.slice A0 n0 c0)).setCell ⟨g1, ps.length * 5 + 4, none⟩ (.int .i64 x.line)) = W := ⟨_, rfl⟩
         rw [hW] at HP ⊢
         clear hW)
  all_goals
    obtain ⟨A9, cap9, hb9, _, _⟩ := HP.out.row
    have hd9 := HP.out.lim.cell 0
    have hc9 := hb9.cell 0
    rw [List.length_append, List.length_singleton] at hc9
    clear hb9 hgrow1 hown1 hat1 hz0 hk0 hk1 hk2 hk3 hk4 hf0 hf1 hf2 hf3 hf4 hcA hfA hgg hlt1
    go_wp2
    go_ret
    exact ⟨rfl, HP.out⟩

end Go.Proofs.YtcidccifnaecaaaDoor
