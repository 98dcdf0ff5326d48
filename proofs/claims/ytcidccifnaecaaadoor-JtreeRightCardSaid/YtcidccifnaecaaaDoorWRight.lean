/- The walk of JtreeRight: true. -/
import Derived.Test.YtcidccifnaecaaaDoorShowW
import Derived.Test.YtcidccifnaecaaaDoorOpen
namespace Go.Proofs.YtcidccifnaecaaaDoor
open Go.RowKit Go.Sort

set_option maxRecDepth 100000 in
set_option maxHeartbeats 4000000 in
theorem wright (w : World) (v : Value) (t : Tree) (hv : TreeArg w v t) (hl : Laid w) :
    Calls Tryd.prog 3 #[v] w fun e w' => e = .returned (.bool true) ∧ Below w.heap.size w w' := by
  obtain ⟨d, sl, rfl, hk, hok⟩ := hv
  obtain ⟨_, A, c, rfl⟩ := hk.form
  obtain ⟨w0, hw0⟩ : ∃ w0, w.alloc (.cells #[.int .i64 t.op, .string t.s, .int .i64 t.n, .slice A t.l.length c, .int .i64 t.line] 24) = w0 := ⟨_, rfl⟩
  have bx : Blk5 w0 w.heap.size t.op t.s t.n (.slice A t.l.length c) t.line := by rw [← hw0]; exact blk5_new _ _ _ _ _ _
  have hb0 : Below w.heap.size w w0 := by rw [← hw0]; exact (Below.refl _ _).alloc (Nat.le_refl _) _
  have HB0 := Lib.hid hb0
  have HX := Lib.hid bx
  have HL := Lib.hid (hl.below hb0)
  have HK := Lib.hid (hk.below hb0)
  have HOK := Lib.hid hok
  clear hb0 hl hk hok bx
  go_enter Tryd.func3, Tryd.ntmps3
  go_wp2_with fail
  refine (shown_calls w0 HL.out).mono ?_
  rintro e w1 ⟨rfl, hb1⟩
  have HB1 := Lib.hid hb1
  obtain ⟨c0, c1, c2, c3, c4⟩ := HX.out.keep hb1
  clear hb1
  go_wp2_with fail
  refine (small_calls d w1 t _ (HK.out.below HB1.out)).mono ?_
  rintro e w2 ⟨rfl, hb2⟩
  have HB2 := Lib.hid (HB1.out.trans (hb2.mono HB1.out.size))
  clear hb2 c0 c1 c2 c3 c4
  obtain ⟨c0, c1, c2, c3, c4⟩ := HX.out.keep HB2.out
  by_cases hs : t.small
  · have hct : t.count ≤ 1073741824 := Nat.le_trans hs.count (by decide)
    rw [if_pos hs]
    have H1 := Lib.hid (fun w9 (hb9 : Below w0.heap.size w0 w9) => right_calls d w9 t _ (HL.out.below hb9) (HK.out.below hb9) HOK.out)
    have H2 := Lib.hid (fun w9 (hb9 : Below w0.heap.size w0 w9) => rright_calls d w9 t _ (HK.out.below hb9) HOK.out hct)
    have H3 := Lib.hid (fun w9 (hb9 : Below w0.heap.size w0 w9) => rightExpr_calls d w9 t _ (HL.out.below hb9) (HK.out.below hb9) HOK.out)
    have H4 := Lib.hid (fun w9 (hb9 : Below w0.heap.size w0 w9) => rrightExpr_calls d w9 t _ (HK.out.below hb9) HOK.out hct)
    have HBQ := Lib.hid (fun dq osq => HB2.out.trans ((below_regrown w2 dq osq).mono HB2.out.size))
    generalize rightB t = b1 at H1 H2
    generalize rightE t = b2 at H3 H4
    have hbb : ∀ b : Bool, (b == b) = true := fun b => by cases b <;> rfl
    clear hs hct
    go_wp2
    have g0 := cell_regrown c0
    have g1 := cell_regrown c1
    have g2 := cell_regrown c2
    have g3 := cell_regrown c3
    have g4 := cell_regrown c4
    clear c0 c1 c2 c3 c4
    cases b1 <;> cases b2
    all_goals
      refine wp_region_quiet_below (by kernel_rfl) (by kernel_rfl) ?_
      repeat (first
        | go_big_quiet_skip
        | quiet_step ((first
          | (go_at_call 19; exact Calls.regrown_of (H1.out _ (HBQ.out _ _)))
          | (go_at_call 20; exact Calls.regrown_of (H2.out _ (HBQ.out _ _)))
          | (go_at_call 21; exact Calls.regrown_of (H3.out _ (HBQ.out _ _)))
          | (go_at_call 22; exact Calls.regrown_of (H4.out _ (HBQ.out _ _))))))
      refine wpQuiet_nil ?_
      intro _ hw'
      obtain ⟨⟨dq, osq⟩, rfl⟩ := hw'
      go_wp2
      go_ret
      exact ⟨rfl, HB0.out.trans ((HBQ.out dq osq).mono HB0.out.size)⟩
  · rw [if_neg hs]
    go_wp2
    go_ret
    exact ⟨rfl, HB0.out.trans (HB2.out.mono HB0.out.size)⟩

end Go.Proofs.YtcidccifnaecaaaDoor
