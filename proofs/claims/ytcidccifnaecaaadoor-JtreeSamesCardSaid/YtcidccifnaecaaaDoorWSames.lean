/- The walk of JtreeSames: true. -/
import Derived.Test.YtcidccifnaecaaaDoorShowW
import Derived.Test.YtcidccifnaecaaaDoorOpen
import Derived.Test.YtcidccifnaecaaaDoorPsame
namespace Go.Proofs.YtcidccifnaecaaaDoor
open Go.RowKit Go.Sort

mutual
theorem same_refl : ∀ (t : Tree), t.same t = true
  | .node o s n l i => by
    simp only [Tree.same]
    rw [sames_refl l]
    simp
theorem sames_refl : ∀ (l : List Tree), sames l l = true
  | [] => rfl
  | t :: ts => by
    simp only [sames]
    rw [same_refl t, sames_refl ts]
    rfl
end
theorem calls_two {P : Program} {f : FuncId} {a x b : Value} {w : World} {Q : Ending → World → Prop} (h : x = b) (hc : Calls P f #[a, b] w Q) : Calls P f #[a, x] w Q := by rwa [h]

set_option maxRecDepth 100000 in
set_option maxHeartbeats 4000000 in
theorem wsames (w : World) (v : Value) (t : Tree) (hv : TreeArg w v t) (v' : Value) (u : Tree) (hv' : TreeArg w v' u) (hl : Laid w) :
    Calls Tryd.prog 7 #[v, v'] w fun e w' => e = .returned (.bool true) ∧ Below w.heap.size w w' := by
  obtain ⟨d, sl, rfl, hk, hok⟩ := hv
  obtain ⟨_, A, c, rfl⟩ := hk.form
  obtain ⟨d', sm, rfl, hk', hok'⟩ := hv'
  obtain ⟨_, A', c', rfl⟩ := hk'.form
  clear hok hok'
  obtain ⟨w00, hw00⟩ : ∃ w00, w.alloc (.cells #[.int .i64 t.op, .string t.s, .int .i64 t.n, .slice A t.l.length c, .int .i64 t.line] 24) = w00 := ⟨_, rfl⟩
  obtain ⟨w0, hw0⟩ : ∃ w0, w00.alloc (.cells #[.int .i64 u.op, .string u.s, .int .i64 u.n, .slice A' u.l.length c', .int .i64 u.line] 24) = w0 := ⟨_, rfl⟩
  have bx0 : Blk5 w00 w.heap.size t.op t.s t.n (.slice A t.l.length c) t.line := by rw [← hw00]; exact blk5_new _ _ _ _ _ _
  have by0 : Blk5 w0 w00.heap.size u.op u.s u.n (.slice A' u.l.length c') u.line := by rw [← hw0]; exact blk5_new _ _ _ _ _ _
  have hb00 : Below w.heap.size w w00 := by rw [← hw00]; exact (Below.refl _ _).alloc (Nat.le_refl _) _
  have hb01 : Below w00.heap.size w00 w0 := by rw [← hw0]; exact (Below.refl _ _).alloc (Nat.le_refl _) _
  have hb0 := hb00.trans (hb01.mono hb00.size)
  have HB0 := Lib.hid hb0
  have HX := Lib.hid (bx0.keep hb01)
  have HY := Lib.hid by0
  have HL := Lib.hid (hl.below hb0)
  have HK := Lib.hid (hk.below hb0)
  have HK' := Lib.hid (hk'.below hb0)
  clear hb00 hb01 hb0 hl hk hk' bx0 by0
  go_enter Tryd.func7, Tryd.ntmps7
  go_wp2_with fail
  refine (shown_calls w0 HL.out).mono ?_
  rintro e w1 ⟨rfl, hb1⟩
  have HB1 := Lib.hid hb1
  obtain ⟨c0, c1, c2, c3, c4⟩ := HX.out.keep hb1
  clear hb1
  go_wp2_with fail
  refine (small_calls d w1 t _ (HK.out.below HB1.out)).mono ?_
  rintro e w2 ⟨rfl, hb2⟩
  have HB2 := Lib.hid (HB1.out.trans (hb2.mono HB1.out.size))
  clear hb2 c0 c1 c2 c3 c4
  by_cases hs : t.small
  · rw [if_pos hs]
    obtain ⟨e0, e1, e2, e3, e4⟩ := HY.out.keep HB2.out
    go_wp2_with fail
    refine (small_calls d' w2 u _ (HK'.out.below HB2.out)).mono ?_
    rintro e w3 ⟨rfl, hb3⟩
    have HB3 := Lib.hid (HB2.out.trans (hb3.mono HB2.out.size))
    clear hb3 e0 e1 e2 e3 e4
    by_cases hs' : u.small
    · rw [if_pos hs']
      obtain ⟨c0, c1, c2, c3, c4⟩ := HX.out.keep HB3.out
      obtain ⟨e0, e1, e2, e3, e4⟩ := HY.out.keep HB3.out
      have H1 := Lib.hid (fun w9 (hb9 : Below w0.heap.size w0 w9) => psame_calls d d' w9 t u _ _ (HK.out.below hb9) (HK'.out.below hb9))
      have H2 := Lib.hid (fun w9 (hb9 : Below w0.heap.size w0 w9) => rsame_calls d d' w9 t u _ _ (HK.out.below hb9) (HK'.out.below hb9))
      have H3 := Lib.hid (fun w9 (hb9 : Below w0.heap.size w0 w9) => psame_calls d d w9 t t _ _ (HK.out.below hb9) (HK.out.below hb9))
      have HBQ := Lib.hid (fun dq osq => HB3.out.trans ((below_regrown w3 dq osq).mono HB3.out.size))
      rw [same_refl t] at H3
      generalize t.same u = b1 at H1 H2
      clear hs hs'
      go_wp2
      have g0 := cell_regrown c0
      have g1 := cell_regrown c1
      have g2 := cell_regrown c2
      have g3 := cell_regrown c3
      have g4 := cell_regrown c4
      have k0 := cell_regrown e0
      have k1 := cell_regrown e1
      have k2 := cell_regrown e2
      have k3 := cell_regrown e3
      have k4 := cell_regrown e4
      clear c0 c1 c2 c3 c4 e0 e1 e2 e3 e4
      cases b1
      all_goals
        refine wp_region_quiet_below (by kernel_rfl) (by kernel_rfl) ?_
        repeat (first
          | go_big_quiet_skip
          | quiet_step ((first
            | (go_at_call 28; refine calls_two (b := .agg #[.int .i64 u.op, .string u.s, .int .i64 u.n, .slice A' u.l.length c', .int .i64 u.line]) rfl ?_; exact Calls.regrown_of (H1.out _ (HBQ.out _ _)))
            | (go_at_call 28; refine calls_two (b := .agg #[.int .i64 t.op, .string t.s, .int .i64 t.n, .slice A t.l.length c, .int .i64 t.line]) rfl ?_; exact Calls.regrown_of (H3.out _ (HBQ.out _ _)))
            | (go_at_call 29; exact Calls.regrown_of (H2.out _ (HBQ.out _ _))))))
        refine wpQuiet_nil ?_
        intro _ hw'
        obtain ⟨⟨dq, osq⟩, rfl⟩ := hw'
        go_wp2
        go_ret
        exact ⟨rfl, HB0.out.trans ((HBQ.out dq osq).mono HB0.out.size)⟩
    · rw [if_neg hs']
      go_wp2
      go_ret
      exact ⟨rfl, HB0.out.trans (HB3.out.mono HB0.out.size)⟩
  · rw [if_neg hs]
    go_wp2
    go_ret
    exact ⟨rfl, HB0.out.trans (HB2.out.mono HB0.out.size)⟩

end Go.Proofs.YtcidccifnaecaaaDoor
