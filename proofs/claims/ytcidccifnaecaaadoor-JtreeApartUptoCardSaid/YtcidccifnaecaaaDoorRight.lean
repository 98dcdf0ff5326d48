/- Right, RightExpr of package jtree, walked. -/
import Derived.Test.YtcidccifnaecaaaDoorFitsW
import Derived.Shelf.RegionOpen
namespace Go.Proofs.YtcidccifnaecaaaDoor
open Go.RowKit

theorem fits_all : ∀ h, h ≤ 200 → FitsAt h
  | 0, _ => by
    intro d w t sl mb _ hk hok hm
    obtain ⟨_, A, c, rfl⟩ := hk.form
    cases hn : formF t.op with
    | none => exact fits_none _ w t mb A t.l.length c hm hok hn
    | some x => exact fits_low w t mb A t.l.length c hm hok x.1 x.2.1 x.2.2 hn
  | h + 1, hh => fits_step h (by omega) (fits_all h (by omega))

def rightB (t : Tree) : Bool := t.op == 32 && fitsB 100 t
def rightE (t : Tree) : Bool := exprK t.op && fitsB 100 t

set_option maxRecDepth 100000 in
set_option maxHeartbeats 1000000 in
theorem right_calls (d : Nat) (w : World) (t : Tree) (sl : Value) (hl : Laid w) (hk : Kids w d t.l sl) (hok : t.ok) :
    Calls Tryd.prog 19 #[.agg #[.int .i64 t.op, .string t.s, .int .i64 t.n, sl, .int .i64 t.line]] w fun e w' => e = .returned (.bool (rightB t)) ∧ Below w.heap.size w w' := by
  obtain ⟨_, A, c, rfl⟩ := hk.form
  obtain ⟨w0, hw0⟩ : ∃ w0, w.alloc (.cells #[.int .i64 t.op, .string t.s, .int .i64 t.n, .slice A t.l.length c, .int .i64 t.line] 24) = w0 := ⟨_, rfl⟩
  have bx : Blk5 w0 w.heap.size t.op t.s t.n (.slice A t.l.length c) t.line := by rw [← hw0]; exact blk5_new _ _ _ _ _ _
  have hb0 : Below w.heap.size w w0 := by rw [← hw0]; exact (Below.refl _ _).alloc (Nat.le_refl _) _
  have HB0 := Lib.hid hb0
  have HX := Lib.hid bx
  have HL := Lib.hid (hl.below hb0)
  have HK := Lib.hid (hk.below hb0)
  have HOK := Lib.hid hok
  obtain ⟨c0, c1, c2, c3, c4⟩ := bx
  clear hb0 hl hk hok
  cases h32 : (t.op == 32) with
  | false =>
    have HF : Hid (rightB t = false) := Lib.hid (by rw [rightB, h32]; rfl)
    go_enter Tryd.func19, Tryd.ntmps19
    go_wp2
    go_region
    go_wp2
    go_ret
    exact ⟨by rw [HF.out]; rfl, HB0.out.drew⟩
  | true =>
    have HT : Hid (rightB t = fitsB 100 t) := Lib.hid (by rw [rightB, h32]; rfl)
    go_enter Tryd.func19, Tryd.ntmps19
    go_wp2
    go_region_with (first
      | (go_at_call 47; refine (exprK_calls _ t.op).mono ?_; rintro e w1 ⟨rfl, rfl⟩)
      | (go_at_call 44; refine (forms_calls _).mono ?_; rintro e w1 ⟨n, f, rfl, hm, hf, hb1⟩; have HM := Lib.hid (⟨n, f, hm, hf⟩ : FormsIn w1 _); have HB1 := Lib.hid ((Below.refl _ w0).drew.trans hb1); clear hm hf hb1; obtain ⟨e0, e1, e2, e3, e4⟩ := HX.out.keep HB1.out)
      | (go_at_call 45; refine (fits_all 100 (by omega) d w1 t _ _ (HL.out.below HB1.out) (HK.out.below HB1.out) HOK.out HM.out).mono ?_; rintro e w2 ⟨rfl, hb2⟩; have HB2 := Lib.hid hb2; clear hb2))
    all_goals
      go_wp2
      go_ret
      exact ⟨by rw [HT.out]; rfl, HB0.out.trans ((HB1.out.trans (HB2.out.mono HB1.out.size)).mono HB0.out.size)⟩

set_option maxRecDepth 100000 in
set_option maxHeartbeats 1000000 in
theorem rightExpr_calls (d : Nat) (w : World) (t : Tree) (sl : Value) (hl : Laid w) (hk : Kids w d t.l sl) (hok : t.ok) :
    Calls Tryd.prog 21 #[.agg #[.int .i64 t.op, .string t.s, .int .i64 t.n, sl, .int .i64 t.line]] w fun e w' => e = .returned (.bool (rightE t)) ∧ Below w.heap.size w w' := by
  obtain ⟨_, A, c, rfl⟩ := hk.form
  obtain ⟨w0, hw0⟩ : ∃ w0, w.alloc (.cells #[.int .i64 t.op, .string t.s, .int .i64 t.n, .slice A t.l.length c, .int .i64 t.line] 24) = w0 := ⟨_, rfl⟩
  have bx : Blk5 w0 w.heap.size t.op t.s t.n (.slice A t.l.length c) t.line := by rw [← hw0]; exact blk5_new _ _ _ _ _ _
  have hb0 : Below w.heap.size w w0 := by rw [← hw0]; exact (Below.refl _ _).alloc (Nat.le_refl _) _
  have HB0 := Lib.hid hb0
  have HX := Lib.hid bx
  have HL := Lib.hid (hl.below hb0)
  have HK := Lib.hid (hk.below hb0)
  have HOK := Lib.hid hok
  obtain ⟨c0, c1, c2, c3, c4⟩ := bx
  clear hb0 hl hk hok
  cases h32 : exprK t.op with
  | false =>
    have HF : Hid (rightE t = false) := Lib.hid (by rw [rightE, h32]; rfl)
    go_enter Tryd.func21, Tryd.ntmps21
    go_wp2
    go_region_with (go_at_call 47; refine (exprK_calls _ t.op).mono ?_; rintro e w1 ⟨rfl, rfl⟩)
    all_goals
      go_wp2
      go_ret
      exact ⟨by rw [HF.out]; rfl, HB0.out.drew⟩
  | true =>
    have HT : Hid (rightE t = fitsB 100 t) := Lib.hid (by rw [rightE, h32]; rfl)
    go_enter Tryd.func21, Tryd.ntmps21
    go_wp2
    go_region_with (first
      | (go_at_call 47; refine (exprK_calls _ t.op).mono ?_; rintro e w1 ⟨rfl, rfl⟩)
      | (go_at_call 44; refine (forms_calls _).mono ?_; rintro e w1 ⟨n, f, rfl, hm, hf, hb1⟩; have HM := Lib.hid (⟨n, f, hm, hf⟩ : FormsIn w1 _); have HB1 := Lib.hid ((Below.refl _ w0).drew.trans hb1); clear hm hf hb1; obtain ⟨e0, e1, e2, e3, e4⟩ := HX.out.keep HB1.out)
      | (go_at_call 45; refine (fits_all 100 (by omega) d w1 t _ _ (HL.out.below HB1.out) (HK.out.below HB1.out) HOK.out HM.out).mono ?_; rintro e w2 ⟨rfl, hb2⟩; have HB2 := Lib.hid hb2; clear hb2))
    all_goals
      go_wp2
      go_ret
      exact ⟨by rw [HT.out]; rfl, HB0.out.trans ((HB1.out.trans (HB2.out.mono HB1.out.size)).mono HB0.out.size)⟩

end Go.Proofs.YtcidccifnaecaaaDoor
