/- The walk of JtreeWalks: true. -/
import Derived.Test.YtcidccifnaecaaaDoorShowW
import Derived.Test.YtcidccifnaecaaaDoorOpen
import Derived.Test.YtcidccifnaecaaaDoorFlatW
import Derived.Test.YtcidccifnaecaaaDoorWalkW
import Derived.Test.YtcidccifnaecaaaDoorRsame
namespace Go.Proofs.YtcidccifnaecaaaDoor
open Go.RowKit Go.Sort

mutual
theorem alike_refl : ∀ (t : Tree), t.same t = true
  | .node o s n l i => by
    simp only [Tree.same]
    rw [alikes_refl l]
    simp
theorem alikes_refl : ∀ (l : List Tree), sames l l = true
  | [] => rfl
  | t :: ts => by
    simp only [sames]
    rw [alike_refl t, alikes_refl ts]
    rfl
end

/-- Element k of a row of trees, as the walk names it. -/
theorem row_node {W : World} {B g n cap : Nat} {ps : List (Tree × Value)} (h : W.ownsRow B 24 5 (.slice (some ⟨g, 0, none⟩) n cap) n (nodeCells ps)) (hn : ps.length = n) {k : Nat} {p : Tree × Value} (hk : ps[k]? = some p) : NodeAt W ⟨g, k * 5, none⟩ p.1 p.2 := by
  have hlt : k < ps.length := (List.getElem?_eq_some_iff.1 hk).1
  have e : ∀ j, j < 5 → W.cell? ⟨g, k * 5 + j, none⟩ = (cellsOf p)[j]? := fun j hj => by
    rw [World.ownsRow.cellAt h (k * 5 + j) (by omega), nodeCells_get j hk hj]
  exact ⟨e 0 (by omega), e 1 (by omega), e 2 (by omega), e 3 (by omega), e 4 (by omega)⟩

set_option maxRecDepth 100000 in
set_option maxHeartbeats 1600000 in
theorem wwalks (w : World) (v : Value) (t : Tree) (hv : TreeArg w v t) (n : Int) (hl : Laid w) :
    Calls Tryd.prog 9 #[v, .int .i64 n] w fun e w' => e = .returned (.bool true) ∧ Below w.heap.size w w' := by
  obtain ⟨d, sl, rfl, hk, hok⟩ := hv
  obtain ⟨_, A, c, rfl⟩ := hk.form
  obtain ⟨w00, hw00⟩ : ∃ w00, w.alloc (.cells #[.int .i64 t.op, .string t.s, .int .i64 t.n, .slice A t.l.length c, .int .i64 t.line] 24) = w00 := ⟨_, rfl⟩
  have bx0 : Blk5 w00 w.heap.size t.op t.s t.n (.slice A t.l.length c) t.line := by rw [← hw00]; exact blk5_new _ _ _ _ _ _
  have hb00 : Below w.heap.size w w00 := by rw [← hw00]; exact (Below.refl _ _).alloc (Nat.le_refl _) _
  have hs00 : w00.heap.size = w.heap.size + 1 := by rw [← hw00]; simp
  obtain ⟨w0, hw0⟩ : ∃ w0, w00.alloc (.cells #[.int .i64 n] 3) = w0 := ⟨_, rfl⟩
  have hb01 : Below w00.heap.size w00 w0 := by rw [← hw0]; exact (Below.refl _ _).alloc (Nat.le_refl _) _
  have hbn : Blk w0 (w.heap.size + 1) 3 #[.int .i64 n] := by rw [← hw0, ← hs00]; exact Blk.new _ _ _
  have hb0 := hb00.trans (hb01.mono hb00.size)
  have HB0 := Lib.hid hb0
  have HX := Lib.hid (bx0.keep hb01)
  have HN := Lib.hid hbn
  have HL := Lib.hid (hl.below hb0)
  have HK := Lib.hid (hk.below hb0)
  have HOK := Lib.hid hok
  clear hb00 hb01 hb0 hl hk bx0 hok hbn
  go_enter Tryd.func9, Tryd.ntmps9
  go_wp2_with fail
  refine (shown_calls w0 HL.out).mono ?_
  rintro e w1 ⟨rfl, hb1⟩
  have HB1 := Lib.hid hb1
  obtain ⟨c0, c1, c2, c3, c4⟩ := HX.out.keep hb1
  clear hb1
  go_wp2_with fail
  refine (small_calls d w1 t _ (HK.out.below HB1.out)).mono ?_
  rintro e w2 ⟨rfl, hb2⟩
  have HB2 := Lib.hid (HB1.out.trans (hb2.mono HB1.out.size))
  clear hb2 c0 c1 c2 c3 c4
  by_cases hs : t.small
  · have hct : t.count ≤ 1500 := hs.count
    rw [if_pos hs]
    have hcn := (HN.out.keep (HB2.out.block _ HN.out.lt)).cell 0
    cases hn1 : decide (n < 1) with
    | true =>
      go_wp2
      go_ret
      exact ⟨rfl, HB0.out.trans (HB2.out.mono HB0.out.size)⟩
    | false =>
      have hn0 : 1 ≤ n := by have := of_decide_eq_false hn1; omega
      obtain ⟨c0, c1, c2, c3, c4⟩ := HX.out.keep HB2.out
      go_wp2_with fail
      refine (flat_calls d w0 w2 t _ HK.out HB2.out HOK.out (by omega)).mono ?_
      rintro e w3 ⟨v3, ps, rfl, hps, hgd, hown, hb3⟩
      clear c0 c1 c2 c3 c4 hcn
      have hpl : ps.length = t.count := by rw [← flat_len t, ← hps, List.length_map]
      have hpp : 0 < ps.length := by rw [hpl, ← flat_len, flat_eq]; simp
      obtain ⟨g3, cap3, rfl, _, hg3⟩ := World.ownsRow.form hown hpp
      have HB3 := Lib.hid (HB2.out.trans (hb3.mono HB2.out.size))
      have HOWN := Lib.hid hown
      have HPS := Lib.hid hps
      have HGD := Lib.hid hgd
      have HPL := Lib.hid hpl
      clear hb3 hown hps hgd hpl hpp
      obtain ⟨w4, hw4⟩ : ∃ w4, w3.alloc (.cells #[.slice none 0 0] 22) = w4 := ⟨_, rfl⟩
      have hb4 : Below w3.heap.size w3 w4 := by rw [← hw4]; exact (Below.refl _ _).alloc (Nat.le_refl _) _
      have hg4 : Blk w4 w3.heap.size 22 #[.slice none 0 0] := by rw [← hw4]; exact Blk.new _ _ _
      have HB4 := Lib.hid (HB3.out.trans (hb4.mono HB3.out.size))
      obtain ⟨c0, c1, c2, c3, c4⟩ := HX.out.keep HB4.out
      have hh4 : Blk w4 (w.heap.size + 1) 3 #[.int .i64 n] := HN.out.keep (HB4.out.block _ HN.out.lt)
      have hlt4 : w.heap.size + 1 < w3.heap.size := Nat.lt_of_lt_of_le HN.out.lt HB3.out.size
      have hJ0 : gotJ w3 w3.heap.size (w.heap.size + 1) n true [] (fun x => x < w3.heap.size ∨ x = w3.heap.size ∨ x = w.heap.size + 1 ∨ (Value.slice none 0 0).ownBlock = some x) w4 :=
        ⟨by simp; omega, by simp; omega, hb4, by simp, hh4, none, 0, hg4, by simpa [nodeCells] using World.ownsRow_nil w4 w3.heap.size 24 5, fun x => Iff.rfl⟩
      have HJ0 := Lib.hid hJ0
      clear hb4 hg4 hJ0
      go_wp2_with fail
      refine (walk_calls d w3 w4 w3.heap.size (w.heap.size + 1) n t _ _ (HK.out.below HB3.out) HOK.out (Nat.le_refl _) (by omega) HJ0.out (by rw [flat_len]; omega)).mono ?_
      rintro e w5 ⟨⟨v9, rfl⟩, b, q, F5, hJ5, _, hq1, hq2⟩
      obtain ⟨hb, hqn, hlow5, hgq, hh5, A5, cap5, hg5, hown5, _⟩ := hJ5
      clear c0 c1 c2 c3 c4 hw4 hh4 HJ0
      have hql : q.length ≤ ps.length := by
        have h1 := hq2.length_le
        rw [List.length_map, ← HPS.out, List.length_map] at h1
        exact h1
      have hmin : min n (ps.length : Int) = (q.length : Int) := by
        cases b with
        | true =>
          have h1 := congrArg List.length (hq1 rfl)
          rw [← HPS.out, List.length_map, List.length_map] at h1
          have h2 : (q.length : Int) < n := by simpa using hb.symm
          omega
        | false =>
          have h2 : ¬ (q.length : Int) < n := by simpa using hb.symm
          omega
      have HB5 := Lib.hid (HB3.out.trans (hlow5.mono HB3.out.size))
      have hcn := hh5.cell 0
      have hcg := hg5.cell 0
      have HOWN5 : Hid (w5.ownsRow w3.heap.size 24 5 (.slice A5 q.length cap5) q.length (nodeCells q)) := Lib.hid hown5
      have HOP : Hid (w5.ownsRow w2.heap.size 24 5 (.slice (some ⟨g3, 0, none⟩) ps.length cap3) ps.length (nodeCells ps)) := Lib.hid (own_keep HOWN.out (fun k hk => hlow5.block k (HOWN.out.lt k hk).2))
      have HG5 := Lib.hid hg5
      have HGQ := Lib.hid hgq
      have HQ2 := Lib.hid hq2
      have HLOW5 := Lib.hid hlow5
      clear hh5 hg5 hown5 hgq hq2 hlow5 hq1 hb
      go_wp2
      have hqb : q.length ≤ 1500 := by have := HPL.out; omega
      clear hcn hcg hmin hqn hn0 hn1 hct hlt4 hs
      go_loopw [4, 8] (fun r i wr => ∃ k : Nat, r = .bool false ∧ k ≤ q.length ∧ i = .int .i64 k ∧ Below w5.heap.size w5 wr) (fun _ i _ => q.length - (intOf i).toNat)
      case atStart => exact ⟨0, rfl, by omega, rfl, Below.refl _ _⟩
      case round =>
        obtain ⟨k, rfl, hk, rfl, hbr⟩ := hrel
        have HBR := Lib.hid hbr
        have hg9 := HG5.out.keep (hbr.block _ HG5.out.lt)
        have hcg := hg9.cell 0
        clear hbr hg9
        by_cases hlt : k < q.length
        · have hlt2 : k < ps.length := by omega
          obtain ⟨p0, hp0⟩ : ∃ p0, q[k]? = some p0 := ⟨_, List.getElem?_eq_getElem hlt⟩
          obtain ⟨p1, hp1⟩ : ∃ p1, ps[k]? = some p1 := ⟨_, List.getElem?_eq_getElem hlt2⟩
          obtain ⟨g5, cap6, hA5, _, _⟩ := World.ownsRow.form HOWN5.out (by omega)
          have hsame : p0.1 = p1.1 := by
            obtain ⟨z, hz⟩ := HQ2.out
            rw [← HPS.out] at hz
            have h1 : (q.map Prod.fst ++ z)[k]? = some p0.1 := by rw [List.getElem?_append_left (by simpa using hlt), List.getElem?_map, hp0]; rfl
            rw [hz, List.getElem?_map, hp1] at h1
            injection h1 with h1
            exact h1.symm
          injection hA5 with hA5 _ hcap
          subst hA5
          subst hcap
          have hN0 := (row_node HOWN5.out rfl hp0).below HBR.out
          have hN1 := (row_node HOP.out rfl hp1).below HBR.out
          obtain ⟨hok0, e0, hk0⟩ := HGQ.out p0 (List.mem_of_getElem? hp0)
          obtain ⟨_, e1, hk1⟩ := HGD.out p1 (List.mem_of_getElem? hp1)
          obtain ⟨u0, s0⟩ := p0
          obtain ⟨u1, s1⟩ := p1
          obtain rfl : u0 = u1 := hsame
          replace hk0 : Kids w3 e0 u0.l s0 := hk0
          replace hk1 : Kids w0 e1 u0.l s1 := hk1
          replace hN0 : NodeAt wr ⟨g5, k * 5, none⟩ u0 s0 := hN0
          replace hN1 : NodeAt wr ⟨g3, k * 5, none⟩ u0 s1 := hN1
          clear hp0 hp1
          obtain ⟨_, A7, c7, rfl⟩ := hk0.form
          obtain ⟨_, A8, c8, rfl⟩ := hk1.form
          have hlr := HLOW5.out.trans (HBR.out.mono HLOW5.out.size)
          have hl0 := HB3.out.trans (hlr.mono HB3.out.size)
          have H1 := Lib.hid (fun w9 (hb9 : Below wr.heap.size wr w9) => rsame_calls e0 e1 w9 u0 u0 _ _ ((hk0.below hlr).below hb9) ((hk1.below hl0).below hb9))
          rw [alike_refl u0] at H1
          have HBQ := Lib.hid (fun dq osq => below_regrown wr dq osq)
          obtain ⟨x0, x1, x2, x3, x4⟩ := hN0
          obtain ⟨y0, y1, y2, y3, y4⟩ := hN1
          clear hk0 hk1 hlr hl0 hok0
          go_wp2
          have gc := cell_regrown hcg
          have gx0 := cell_regrown x0
          have gx1 := cell_regrown x1
          have gx2 := cell_regrown x2
          have gx3 := cell_regrown x3
          have gx4 := cell_regrown x4
          have gy0 := cell_regrown y0
          have gy1 := cell_regrown y1
          have gy2 := cell_regrown y2
          have gy3 := cell_regrown y3
          have gy4 := cell_regrown y4
          clear hcg x0 x1 x2 x3 x4 y0 y1 y2 y3 y4
          refine wp_region_quiet_below (by kernel_rfl) (by kernel_rfl) ?_
          repeat (first
            | go_big_quiet_skip
            | quiet_step ((go_at_call 29; exact Calls.regrown_of (H1.out _ (HBQ.out _ _)))))
          refine wpQuiet_nil ?_
          intro _ hw'
          obtain ⟨⟨dq, osq⟩, rfl⟩ := hw'
          go_wp2
          go_roundw
          case rel => exact ⟨k + 1, rfl, by omega, by go_num, HBR.out.trans ((HBQ.out dq osq).mono HBR.out.size)⟩
          case measure => simp [intOf]; omega
        · obtain rfl : k = q.length := by omega
          have hd : decide ((q.length : Int) < (q.length : Int)) = false := by simp
          go_wp2
          go_ret
          exact ⟨rfl, HB0.out.trans ((HB5.out.trans (HBR.out.mono HB5.out.size)).mono HB0.out.size)⟩
  · rw [if_neg hs]
    go_wp2
    go_ret
    exact ⟨rfl, HB0.out.trans (HB2.out.mono HB0.out.size)⟩

end Go.Proofs.YtcidccifnaecaaaDoor
