/- The document's Flat, walked: its slice. -/
import Derived.Test.YtcidccifnaecaaaDoorFlat
import Derived.Deep.AppendLies
import Derived.Deep.Onto
namespace Go.Proofs.YtcidccifnaecaaaDoor
open Go.RowKit

/-- What Flat hands back: a row of its own of all parts. -/
def FlatPost (wB w : World) (t : Tree) (e : Ending) (w' : World) : Prop :=
  ∃ v ps, e = .returned v ∧ ps.map Prod.fst = t.flat ∧ (∀ p ∈ ps, Good wB p) ∧ w'.ownsRow w.heap.size 24 5 v ps.length (nodeCells ps) ∧ Below w.heap.size w w'

set_option maxRecDepth 100000 in
set_option maxHeartbeats 1000000 in
theorem flat_calls : ∀ (d : Nat) (wB w : World) (t : Tree) (sl : Value), Kids wB d t.l sl → Below wB.heap.size wB w → t.ok → t.count ≤ 1073741824 →
    Calls Tryd.prog 30 #[.agg #[.int .i64 t.op, .string t.s, .int .i64 t.n, sl, .int .i64 t.line]] w (FlatPost wB w t) := by
  intro d
  induction d using Nat.strongRecOn with
  | _ d ih =>
  intro wB w t sl hkB hBw hok hct
  have hk := hkB.below hBw
  have HKB := Lib.hid hkB
  have HBW := Lib.hid hBw
  have IH := Lib.hid ih
  have hgood : Good wB (t, sl) := ⟨hok, d, hkB⟩
  have HG := Lib.hid hgood
  obtain ⟨hl, A, c, rfl⟩ := hk.form
  unfold maxLen at hl
  have HFE := Lib.hid (flat_eq t)
  have hfl := flat_len t
  have HFL := Lib.hid (by rw [hfl]; exact hct : t.flat.length ≤ 1073741824)
  obtain ⟨w0, hw0⟩ : ∃ w0, w.alloc (.cells #[.int .i64 t.op, .string t.s, .int .i64 t.n, .slice A t.l.length c, .int .i64 t.line] 24) = w0 := ⟨_, rfl⟩
  have hbox : Blk5 w0 w.heap.size t.op t.s t.n (.slice A t.l.length c) t.line := by rw [← hw0]; exact blk5_new _ _ _ _ _ _
  have hsz : w0.heap.size = w.heap.size + 1 := by rw [← hw0]; simp
  have hb0 : Below w.heap.size w w0 := by rw [← hw0]; exact (Below.refl _ _).alloc (Nat.le_refl _) _
  obtain ⟨w1, hw1⟩ : ∃ w1, w0.alloc (.cells #[.int .i64 t.op, .string t.s, .int .i64 t.n, .slice A t.l.length c, .int .i64 t.line] 24) = w1 := ⟨_, rfl⟩
  have hb1 : Below w0.heap.size w0 w1 := by rw [← hw1]; exact (Below.refl _ _).alloc (Nat.le_refl _) _
  have hown : w1.ownsRow (w.heap.size + 1) 24 5 (.slice (some ⟨w.heap.size + 1, 0, none⟩) 1 1) 1 (nodeCells [(t, .slice A t.l.length c)]) := by
    rw [← hw1]
    have h := World.ownsRow_lit (base := w.heap.size + 1) (e := 24) (size := 5) w0 #[.int .i64 t.op, .string t.s, .int .i64 t.n, .slice A t.l.length c, .int .i64 t.line] 1 (by omega) (by simp [maxLen]) (by simp)
    rw [hsz] at h
    exact h
  have hbox1 := hbox.keep hb1
  have HB1 := Lib.hid (hb0.trans (hb1.mono hb0.size))
  have HOWN := Lib.hid hown
  have HBX1 := Lib.hid hbox1
  obtain ⟨i0, hi, hz0, hz1, hz2⟩ := info_parts info_node
  have c0 := hbox.c0
  have c1 := hbox.c1
  have c2 := hbox.c2
  have c3 := hbox.c3
  have c4 := hbox.c4
  clear hk hkB hBw hok hct hgood hown hbox hbox1 hb1 hb0 ih
  go_enter Tryd.func30, Tryd.ntmps30
  go_wp2
  clear c0 c1 c2 c3 c4 hw0 hw1 hsz
  go_loopw [3, 4] (fun v i wr => ∃ (k : Nat) (ps : List (Tree × Value)), k ≤ t.l.length ∧ i = .int .i64 k ∧ ps.map Prod.fst = t :: flats (t.l.take k) ∧ (∀ p ∈ ps, Good wB p) ∧ wr.ownsRow (w.heap.size + 1) 24 5 v ps.length (nodeCells ps) ∧
    Below w.heap.size w wr ∧ Blk5 wr w.heap.size t.op t.s t.n (.slice A t.l.length c) t.line) (fun _ i _ => t.l.length - (intOf i).toNat)
  case atStart => exact ⟨0, [(t, .slice A t.l.length c)], by omega, rfl, by simp [flats], by simpa using HG.out, HOWN.out, HB1.out, HBX1.out⟩
  case round =>
    clear HOWN HB1 HBX1
    obtain ⟨k, ps, hk, rfl, hps, hgd, hown, hb, hbx⟩ := hrel
    obtain ⟨A1, c1, rfl⟩ := own_slice hown
    have HPS := Lib.hid hps
    have HGD := Lib.hid hgd
    have HOWN := Lib.hid hown
    have HB := Lib.hid hb
    have HBX := Lib.hid hbx
    have hb3 := hbx.c3
    clear hps hgd hown hb hbx
    by_cases hlt : k < t.l.length
    · have hy : t.l[k]? = some t.l[k] := List.getElem?_eq_getElem hlt
      generalize t.l[k] = u at hy
      obtain ⟨a, sl, d1, hd1, rfl, hN, hKu, hoku⟩ := HKB.out.at_ hy
      have HY := Lib.hid hy
      have hcu : u.count ≤ 1073741824 ∧ ps.length + u.count ≤ 1073741824 := by
        have h1 := flats_next hy
        have h2 := flats_append (t.l.take (k + 1)) (t.l.drop (k + 1))
        rw [List.take_append_drop] at h2
        have h3 := congrArg List.length h1
        have h4 := congrArg List.length h2
        have h5 := congrArg List.length HFE.out
        have h6 := congrArg List.length HPS.out
        have h7 := flat_len u
        have h8 := HFL.out
        simp only [List.length_append, List.length_cons, List.length_map] at h3 h4 h5 h6
        omega
      have hBr := HBW.out.trans (HB.out.mono HBW.out.size)
      have HBR := Lib.hid hBr
      have HKU := Lib.hid hKu
      have HGU := Lib.hid hoku
      obtain ⟨_, A2, c2, hsl2⟩ := hKu.form
      obtain ⟨d0, d1', d2, d3, d4⟩ := hN.below hBr
      subst hsl2
      have HD1 := Lib.hid hd1
      have HCU := Lib.hid hcu
      clear hN hKu hoku hy hcu hd1 hBr
      go_wp2_with fail
      refine (IH.out d1 HD1.out wB wr u _ HKU.out HBR.out HGU.out HCU.out.1).mono ?_
      rintro e w2 ⟨v2, qs, rfl, hqs, hgq, hown2, hb2⟩
      have hql : qs.length = u.count := by rw [← flat_len u, ← hqs, List.length_map]
      have hqp : 0 < qs.length := by rw [hql, ← flat_len, flat_eq]; simp
      obtain ⟨g2, cap2, rfl, _, _⟩ := World.ownsRow.form hown2 hqp
      have hownv : w2.ownsRow (w.heap.size + 1) 24 5 (.slice A1 ps.length c1) ps.length (nodeCells ps) := own_keep HOWN.out (fun g hg => hb2.block g (HOWN.out.lt g hg).2)
      have HB2 := Lib.hid (HB.out.trans (hb2.mono HB.out.size))
      have HBX2 := Lib.hid (HBX.out.keep hb2)
      have HO2 := Lib.hid hown2
      have HOV := Lib.hid hownv
      have HQS := Lib.hid hqs
      have HGQ := Lib.hid hgq
      have HQL := Lib.hid hql
      clear hql hqp hownv hown2 hqs hgq d0 d1' d2 d3 d4
      have h30 := HCU.out.2
      rw [← HQL.out] at h30
      have hbw := HB2.out.size
      have hbxl : w.heap.size < w2.heap.size := World.block_lt_of_cell? _ _ HBX2.out.c0
      have hb3 := HBX2.out.c3
      go_wp2_with (at_builtin; refine wpList_append_own _ rfl _ _ 22 rfl (w.heap.size + 1) 24 i0 _ 5 64 Tryd.underlying22 hi hz0 hz1 hz2 rfl (by decide) _ _ _ rfl HOV.out ⟨g2, 0, none⟩ qs.length cap2 (nodeCells qs) rfl (nodeCells_len qs) (fun j u hu => HO2.out.cells rfl j u hu) (Good.one HGQ.out) ?qc4 ?qc5 ?qc6 ?_)
      case qc4 => simp only [maxLen]; omega
      case qc5 => omega
      case qc6 => exact hbxl
      intro v3 w3 hown3 hgrow hnil
      clear hnil hz0 hz1 hz2 hi
      rw [← nodeCells_append, ← List.length_append] at hown3
      have hrow : ∀ g, (Value.slice A1 ps.length c1).ownBlock = some g → w.heap.size + 1 ≤ g := fun g hg => (HOV.out.lt g hg).1
      have HB3 := Lib.hid (HB2.out.grown hgrow hbw (fun g hg => by have := hrow g hg; omega))
      have HBX3 : Hid (Blk5 w3 w.heap.size t.op t.s t.n (.slice (some a) t.l.length c) t.line) := Lib.hid (by
        have e : ∀ {i u}, w2.cell? ⟨w.heap.size, i, none⟩ = some u → w3.cell? ⟨w.heap.size, i, none⟩ = some u := fun h => hgrow.cell h (fun e => by have h9 : w.heap.size + 1 ≤ w.heap.size := hrow _ e.symm; omega)
        exact ⟨e HBX2.out.c0, e HBX2.out.c1, e HBX2.out.c2, e HBX2.out.c3, e HBX2.out.c4⟩)
      have HOWN3 := Lib.hid hown3
      have HNX : Hid ((ps ++ qs).map Prod.fst = t :: flats (t.l.take (k + 1))) := Lib.hid (by
        rw [List.map_append, HPS.out, HQS.out, flats_next HY.out]; rfl)
      have HGN : Hid (∀ p ∈ ps ++ qs, Good wB p) := Lib.hid (fun p hp => by
        rcases List.mem_append.1 hp with h | h
        · exact HGD.out p h
        · exact HGQ.out p h)
      clear hown3 hgrow
      go_wp2
      go_roundw
      case rel => exact ⟨k + 1, ps ++ qs, by omega, by go_num, HNX.out, HGN.out, HOWN3.out, HB3.out, HBX3.out⟩
      case measure => simp [intOf]; omega
    · obtain rfl : k = t.l.length := by omega
      have hd : decide ((t.l.length : Int) < (t.l.length : Int)) = false := by simp
      go_wp2
      go_ret
      refine ⟨_, ps, rfl, ?_, HGD.out, own_mono HOWN.out (fun g hg => by have := HOWN.out.lt g hg; omega), HB.out⟩
      rw [HPS.out, HFE.out, List.take_length]

end Go.Proofs.YtcidccifnaecaaaDoor
