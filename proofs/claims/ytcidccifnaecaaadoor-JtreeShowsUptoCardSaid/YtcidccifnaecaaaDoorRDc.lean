/- The document's expr, kind by kind, second part: walked. -/
import Derived.Test.YtcidccifnaecaaaDoorRDa
namespace Go.Proofs.YtcidccifnaecaaaDoor
open Go.RowKit

set_option maxRecDepth 100000 in
set_option maxHeartbeats 4000000 in
theorem rexpr_15 (h : Nat) (hh : h ≤ 200) (ia : AllR h) (d : Nat) (w : World) (t : Tree) (sl : Value) (hk : Kids w d t.l sl) (hok : t.ok) (hct : t.count ≤ 1073741824) (hop : t.op = 15) :
    Calls Tryd.prog 48 #[.agg #[.int .i64 t.op, .string t.s, .int .i64 t.n, sl, .int .i64 t.line], .int .i64 ((h + 1 : Nat) : Int)] w fun e w' => e = .returned (.bool (exprB (h + 1) t)) ∧ Below w.heap.size w w' := by
  obtain ⟨hlen, A, c, rfl⟩ := hk.form
  unfold maxLen at hlen
  have HFORM := Lib.hid (form_15 h t hop)
  rw [hop]
  obtain ⟨w0, hw0⟩ : ∃ w0, w.alloc (.cells #[.int .i64 15, .string t.s, .int .i64 t.n, .slice A t.l.length c, .int .i64 t.line] 24) = w0 := ⟨_, rfl⟩
  have bx : Blk5 w0 w.heap.size 15 t.s t.n (.slice A t.l.length c) t.line := by rw [← hw0]; exact blk5_new _ _ _ _ _ _
  have hb0 : Below w.heap.size w w0 := by rw [← hw0]; exact (Below.refl _ _).alloc (Nat.le_refl _) _
  have HB0 := Lib.hid hb0
  have HS := Lib.hid hok.1
  have hct' : counts t.l ≤ 1073741824 := by rw [count_eq] at hct; omega
  have HC := Lib.hid (ia d w0 t.l _ (hk.below hb0) hct')
  have HX := Lib.hid bx
  obtain ⟨c0, c1, c2, c3, c4⟩ := bx
  clear hb0 hk hok hct hct' hop ia
  obtain ⟨H, hH⟩ : ∃ H : Int, ((h + 1 : Nat) : Int) = H := ⟨_, rfl⟩
  rw [hH]
  have hH0 : decide (H < 1) = false := by simp; omega
  have hH1 : H - 1 = (h : Int) := by omega
  have hH2 : 0 ≤ H := by omega
  have hH3 : H ≤ 201 := by omega
  clear hH
  cases hE : t.s.toList.isEmpty with
  | false =>
    have hE' : t.s.data.toList.isEmpty = false := by rw [← ByteArray.toList_eq]; exact hE
    have HF : Hid (exprB (h + 1) t = false) := Lib.hid (by rw [HFORM.out, hE']; rfl)
    go_enter Tryd.func48, Tryd.ntmps48
    go_wp2_with (first
      | (go_at_call 41; refine (risName_calls _ _ HS.out).mono ?_; rintro e w' ⟨rfl, rfl⟩)
      | (go_at_call 40; refine (risWord_calls _ _).mono ?_; rintro e w' ⟨rfl, rfl⟩))
    go_ret
    exact ⟨by rw [HF.out]; rfl, HB0.out⟩
  | true =>
    have hE' : t.s.data.toList.isEmpty = true := by rw [← ByteArray.toList_eq]; exact hE
    cases hN : (t.n == 0) with
    | false =>
      have HF : Hid (exprB (h + 1) t = false) := Lib.hid (by rw [HFORM.out, hE', hN]; rfl)
      go_enter Tryd.func48, Tryd.ntmps48
      go_wp2_with (first
        | (go_at_call 41; refine (risName_calls _ _ HS.out).mono ?_; rintro e w' ⟨rfl, rfl⟩)
        | (go_at_call 40; refine (risWord_calls _ _).mono ?_; rintro e w' ⟨rfl, rfl⟩))
      go_ret
      exact ⟨by rw [HF.out]; rfl, HB0.out⟩
    | true =>
      cases hG1 : decide ((1 : Int) ≤ t.l.length) with
      | false =>
        have HF : Hid (exprB (h + 1) t = false) := Lib.hid (by rw [HFORM.out, hE', hN, hG1]; rfl)
        go_enter Tryd.func48, Tryd.ntmps48
        go_wp2_with (first
          | (go_at_call 41; refine (risName_calls _ _ HS.out).mono ?_; rintro e w' ⟨rfl, rfl⟩)
          | (go_at_call 40; refine (risWord_calls _ _).mono ?_; rintro e w' ⟨rfl, rfl⟩))
        go_ret
        exact ⟨by rw [HF.out]; rfl, HB0.out⟩
      | true =>
        cases hL200 : decide ((t.l.length : Int) ≤ 200) with
        | false =>
          have HF : Hid (exprB (h + 1) t = false) := Lib.hid (by rw [HFORM.out, hE', hN, hG1, hL200]; rfl)
          go_enter Tryd.func48, Tryd.ntmps48
          go_wp2_with (first
            | (go_at_call 41; refine (risName_calls _ _ HS.out).mono ?_; rintro e w' ⟨rfl, rfl⟩)
            | (go_at_call 40; refine (risWord_calls _ _).mono ?_; rintro e w' ⟨rfl, rfl⟩))
          go_ret
          exact ⟨by rw [HF.out]; rfl, HB0.out⟩
        | true =>
          have HF : Hid (exprB (h + 1) t = allB h t.l) := Lib.hid (by rw [HFORM.out, hE', hN, hG1, hL200]; rfl)
          go_enter Tryd.func48, Tryd.ntmps48
          go_wp2_with (first
            | (go_at_call 41; refine (risName_calls _ _ HS.out).mono ?_; rintro e w' ⟨rfl, rfl⟩)
            | (go_at_call 40; refine (risWord_calls _ _).mono ?_; rintro e w' ⟨rfl, rfl⟩)
            | (go_at_call 73; refine HC.out.mono ?_; rintro e w1 ⟨rfl, hb1⟩; have HB1 := Lib.hid hb1; clear hb1))
          go_ret
          exact ⟨by rw [HF.out]; rfl, HB0.out.trans (HB1.out.mono HB0.out.size)⟩

set_option maxRecDepth 100000 in
set_option maxHeartbeats 4000000 in
theorem rexpr_16 (h : Nat) (hh : h ≤ 200) (ia : AllR h) (d : Nat) (w : World) (t : Tree) (sl : Value) (hk : Kids w d t.l sl) (hok : t.ok) (hct : t.count ≤ 1073741824) (hop : t.op = 16) :
    Calls Tryd.prog 48 #[.agg #[.int .i64 t.op, .string t.s, .int .i64 t.n, sl, .int .i64 t.line], .int .i64 ((h + 1 : Nat) : Int)] w fun e w' => e = .returned (.bool (exprB (h + 1) t)) ∧ Below w.heap.size w w' := by
  obtain ⟨hlen, A, c, rfl⟩ := hk.form
  unfold maxLen at hlen
  have HFORM := Lib.hid (form_16 h t hop)
  rw [hop]
  obtain ⟨w0, hw0⟩ : ∃ w0, w.alloc (.cells #[.int .i64 16, .string t.s, .int .i64 t.n, .slice A t.l.length c, .int .i64 t.line] 24) = w0 := ⟨_, rfl⟩
  have bx : Blk5 w0 w.heap.size 16 t.s t.n (.slice A t.l.length c) t.line := by rw [← hw0]; exact blk5_new _ _ _ _ _ _
  have hb0 : Below w.heap.size w w0 := by rw [← hw0]; exact (Below.refl _ _).alloc (Nat.le_refl _) _
  have HB0 := Lib.hid hb0
  have HS := Lib.hid hok.1
  have hct' : counts t.l ≤ 1073741824 := by rw [count_eq] at hct; omega
  have HC := Lib.hid (ia d w0 t.l _ (hk.below hb0) hct')
  have HX := Lib.hid bx
  obtain ⟨c0, c1, c2, c3, c4⟩ := bx
  clear hb0 hk hok hct hct' hop ia
  obtain ⟨H, hH⟩ : ∃ H : Int, ((h + 1 : Nat) : Int) = H := ⟨_, rfl⟩
  rw [hH]
  have hH0 : decide (H < 1) = false := by simp; omega
  have hH1 : H - 1 = (h : Int) := by omega
  have hH2 : 0 ≤ H := by omega
  have hH3 : H ≤ 201 := by omega
  clear hH
  cases hE : t.s.toList.isEmpty with
  | false =>
    have hE' : t.s.data.toList.isEmpty = false := by rw [← ByteArray.toList_eq]; exact hE
    have HF : Hid (exprB (h + 1) t = false) := Lib.hid (by rw [HFORM.out, hE']; rfl)
    go_enter Tryd.func48, Tryd.ntmps48
    go_wp2_with (first
      | (go_at_call 41; refine (risName_calls _ _ HS.out).mono ?_; rintro e w' ⟨rfl, rfl⟩)
      | (go_at_call 40; refine (risWord_calls _ _).mono ?_; rintro e w' ⟨rfl, rfl⟩))
    go_ret
    exact ⟨by rw [HF.out]; rfl, HB0.out⟩
  | true =>
    have hE' : t.s.data.toList.isEmpty = true := by rw [← ByteArray.toList_eq]; exact hE
    cases hN : (t.n == 0) with
    | false =>
      have HF : Hid (exprB (h + 1) t = false) := Lib.hid (by rw [HFORM.out, hE', hN]; rfl)
      go_enter Tryd.func48, Tryd.ntmps48
      go_wp2_with (first
        | (go_at_call 41; refine (risName_calls _ _ HS.out).mono ?_; rintro e w' ⟨rfl, rfl⟩)
        | (go_at_call 40; refine (risWord_calls _ _).mono ?_; rintro e w' ⟨rfl, rfl⟩))
      go_ret
      exact ⟨by rw [HF.out]; rfl, HB0.out⟩
    | true =>
      cases hG1 : decide ((1 : Int) ≤ t.l.length) with
      | false =>
        have HF : Hid (exprB (h + 1) t = false) := Lib.hid (by rw [HFORM.out, hE', hN, hG1]; rfl)
        go_enter Tryd.func48, Tryd.ntmps48
        go_wp2_with (first
          | (go_at_call 41; refine (risName_calls _ _ HS.out).mono ?_; rintro e w' ⟨rfl, rfl⟩)
          | (go_at_call 40; refine (risWord_calls _ _).mono ?_; rintro e w' ⟨rfl, rfl⟩))
        go_ret
        exact ⟨by rw [HF.out]; rfl, HB0.out⟩
      | true =>
        cases hL200 : decide ((t.l.length : Int) ≤ 200) with
        | false =>
          have HF : Hid (exprB (h + 1) t = false) := Lib.hid (by rw [HFORM.out, hE', hN, hG1, hL200]; rfl)
          go_enter Tryd.func48, Tryd.ntmps48
          go_wp2_with (first
            | (go_at_call 41; refine (risName_calls _ _ HS.out).mono ?_; rintro e w' ⟨rfl, rfl⟩)
            | (go_at_call 40; refine (risWord_calls _ _).mono ?_; rintro e w' ⟨rfl, rfl⟩))
          go_ret
          exact ⟨by rw [HF.out]; rfl, HB0.out⟩
        | true =>
          have HF : Hid (exprB (h + 1) t = allB h t.l) := Lib.hid (by rw [HFORM.out, hE', hN, hG1, hL200]; rfl)
          go_enter Tryd.func48, Tryd.ntmps48
          go_wp2_with (first
            | (go_at_call 41; refine (risName_calls _ _ HS.out).mono ?_; rintro e w' ⟨rfl, rfl⟩)
            | (go_at_call 40; refine (risWord_calls _ _).mono ?_; rintro e w' ⟨rfl, rfl⟩)
            | (go_at_call 73; refine HC.out.mono ?_; rintro e w1 ⟨rfl, hb1⟩; have HB1 := Lib.hid hb1; clear hb1))
          go_ret
          exact ⟨by rw [HF.out]; rfl, HB0.out.trans (HB1.out.mono HB0.out.size)⟩

set_option maxRecDepth 100000 in
set_option maxHeartbeats 4000000 in
theorem rexpr_18 (h : Nat) (hh : h ≤ 200) (ia : AllR h) (d : Nat) (w : World) (t : Tree) (sl : Value) (hk : Kids w d t.l sl) (hok : t.ok) (hct : t.count ≤ 1073741824) (hop : t.op = 18) :
    Calls Tryd.prog 48 #[.agg #[.int .i64 t.op, .string t.s, .int .i64 t.n, sl, .int .i64 t.line], .int .i64 ((h + 1 : Nat) : Int)] w fun e w' => e = .returned (.bool (exprB (h + 1) t)) ∧ Below w.heap.size w w' := by
  obtain ⟨hlen, A, c, rfl⟩ := hk.form
  unfold maxLen at hlen
  have HFORM := Lib.hid (form_18 h t hop)
  rw [hop]
  obtain ⟨w0, hw0⟩ : ∃ w0, w.alloc (.cells #[.int .i64 18, .string t.s, .int .i64 t.n, .slice A t.l.length c, .int .i64 t.line] 24) = w0 := ⟨_, rfl⟩
  have bx : Blk5 w0 w.heap.size 18 t.s t.n (.slice A t.l.length c) t.line := by rw [← hw0]; exact blk5_new _ _ _ _ _ _
  have hb0 : Below w.heap.size w w0 := by rw [← hw0]; exact (Below.refl _ _).alloc (Nat.le_refl _) _
  have HB0 := Lib.hid hb0
  have HS := Lib.hid hok.1
  have hct' : counts t.l ≤ 1073741824 := by rw [count_eq] at hct; omega
  have HC := Lib.hid (ia d w0 t.l _ (hk.below hb0) hct')
  have HX := Lib.hid bx
  obtain ⟨c0, c1, c2, c3, c4⟩ := bx
  clear hb0 hk hok hct hct' hop ia
  obtain ⟨H, hH⟩ : ∃ H : Int, ((h + 1 : Nat) : Int) = H := ⟨_, rfl⟩
  rw [hH]
  have hH0 : decide (H < 1) = false := by simp; omega
  have hH1 : H - 1 = (h : Int) := by omega
  have hH2 : 0 ≤ H := by omega
  have hH3 : H ≤ 201 := by omega
  clear hH
  cases hE : t.s.toList.isEmpty with
  | false =>
    have hE' : t.s.data.toList.isEmpty = false := by rw [← ByteArray.toList_eq]; exact hE
    cases hSG : signB t.s.data.toList with
    | false =>
      have HF : Hid (exprB (h + 1) t = false) := Lib.hid (by rw [HFORM.out, hSG]; rfl)
      go_enter Tryd.func48, Tryd.ntmps48
      go_wp2_with (first
        | (go_at_call 41; refine (risName_calls _ _ HS.out).mono ?_; rintro e w' ⟨rfl, rfl⟩)
        | (go_at_call 40; refine (risWord_calls _ _).mono ?_; rintro e w' ⟨rfl, rfl⟩)
        | (go_at_call 74; refine (bin_calls _ _).mono ?_; rintro e w' ⟨rfl, rfl⟩))
      go_ret
      exact ⟨by rw [HF.out]; rfl, HB0.out⟩
    | true =>
      cases hN : (t.n == 0) with
      | false =>
        have HF : Hid (exprB (h + 1) t = false) := Lib.hid (by rw [HFORM.out, hSG, hN]; rfl)
        go_enter Tryd.func48, Tryd.ntmps48
        go_wp2_with (first
          | (go_at_call 41; refine (risName_calls _ _ HS.out).mono ?_; rintro e w' ⟨rfl, rfl⟩)
          | (go_at_call 40; refine (risWord_calls _ _).mono ?_; rintro e w' ⟨rfl, rfl⟩)
          | (go_at_call 74; refine (bin_calls _ _).mono ?_; rintro e w' ⟨rfl, rfl⟩))
        go_ret
        exact ⟨by rw [HF.out]; rfl, HB0.out⟩
      | true =>
        cases hL2 : ((t.l.length : Int) == 2) with
        | false =>
          have HF : Hid (exprB (h + 1) t = false) := Lib.hid (by rw [HFORM.out, hSG, hN, hL2]; rfl)
          go_enter Tryd.func48, Tryd.ntmps48
          go_wp2_with (first
            | (go_at_call 41; refine (risName_calls _ _ HS.out).mono ?_; rintro e w' ⟨rfl, rfl⟩)
            | (go_at_call 40; refine (risWord_calls _ _).mono ?_; rintro e w' ⟨rfl, rfl⟩)
            | (go_at_call 74; refine (bin_calls _ _).mono ?_; rintro e w' ⟨rfl, rfl⟩))
          go_ret
          exact ⟨by rw [HF.out]; rfl, HB0.out⟩
        | true =>
          have HF : Hid (exprB (h + 1) t = allB h t.l) := Lib.hid (by rw [HFORM.out, hSG, hN, hL2]; rfl)
          go_enter Tryd.func48, Tryd.ntmps48
          go_wp2_with (first
            | (go_at_call 41; refine (risName_calls _ _ HS.out).mono ?_; rintro e w' ⟨rfl, rfl⟩)
            | (go_at_call 40; refine (risWord_calls _ _).mono ?_; rintro e w' ⟨rfl, rfl⟩)
            | (go_at_call 74; refine (bin_calls _ _).mono ?_; rintro e w' ⟨rfl, rfl⟩)
            | (go_at_call 73; refine HC.out.mono ?_; rintro e w1 ⟨rfl, hb1⟩; have HB1 := Lib.hid hb1; clear hb1))
          go_ret
          exact ⟨by rw [HF.out]; rfl, HB0.out.trans (HB1.out.mono HB0.out.size)⟩
  | true =>
    have hE' : t.s.data.toList.isEmpty = true := by rw [← ByteArray.toList_eq]; exact hE
    cases hN : (t.n == 0) with
    | false =>
      cases hSG : signB t.s.data.toList with
      | false =>
        have HF : Hid (exprB (h + 1) t = false) := Lib.hid (by rw [HFORM.out, hSG]; rfl)
        go_enter Tryd.func48, Tryd.ntmps48
        go_wp2_with (first
          | (go_at_call 41; refine (risName_calls _ _ HS.out).mono ?_; rintro e w' ⟨rfl, rfl⟩)
          | (go_at_call 40; refine (risWord_calls _ _).mono ?_; rintro e w' ⟨rfl, rfl⟩)
          | (go_at_call 74; refine (bin_calls _ _).mono ?_; rintro e w' ⟨rfl, rfl⟩))
        go_ret
        exact ⟨by rw [HF.out]; rfl, HB0.out⟩
      | true =>
        have HF : Hid (exprB (h + 1) t = false) := Lib.hid (by rw [HFORM.out, hSG, hN]; rfl)
        go_enter Tryd.func48, Tryd.ntmps48
        go_wp2_with (first
          | (go_at_call 41; refine (risName_calls _ _ HS.out).mono ?_; rintro e w' ⟨rfl, rfl⟩)
          | (go_at_call 40; refine (risWord_calls _ _).mono ?_; rintro e w' ⟨rfl, rfl⟩)
          | (go_at_call 74; refine (bin_calls _ _).mono ?_; rintro e w' ⟨rfl, rfl⟩))
        go_ret
        exact ⟨by rw [HF.out]; rfl, HB0.out⟩
    | true =>
      cases hSG : signB t.s.data.toList with
      | false =>
        have HF : Hid (exprB (h + 1) t = false) := Lib.hid (by rw [HFORM.out, hSG]; rfl)
        go_enter Tryd.func48, Tryd.ntmps48
        go_wp2_with (first
          | (go_at_call 41; refine (risName_calls _ _ HS.out).mono ?_; rintro e w' ⟨rfl, rfl⟩)
          | (go_at_call 40; refine (risWord_calls _ _).mono ?_; rintro e w' ⟨rfl, rfl⟩)
          | (go_at_call 74; refine (bin_calls _ _).mono ?_; rintro e w' ⟨rfl, rfl⟩))
        go_ret
        exact ⟨by rw [HF.out]; rfl, HB0.out⟩
      | true =>
        cases hL2 : ((t.l.length : Int) == 2) with
        | false =>
          have HF : Hid (exprB (h + 1) t = false) := Lib.hid (by rw [HFORM.out, hSG, hN, hL2]; rfl)
          go_enter Tryd.func48, Tryd.ntmps48
          go_wp2_with (first
            | (go_at_call 41; refine (risName_calls _ _ HS.out).mono ?_; rintro e w' ⟨rfl, rfl⟩)
            | (go_at_call 40; refine (risWord_calls _ _).mono ?_; rintro e w' ⟨rfl, rfl⟩)
            | (go_at_call 74; refine (bin_calls _ _).mono ?_; rintro e w' ⟨rfl, rfl⟩))
          go_ret
          exact ⟨by rw [HF.out]; rfl, HB0.out⟩
        | true =>
          have HF : Hid (exprB (h + 1) t = allB h t.l) := Lib.hid (by rw [HFORM.out, hSG, hN, hL2]; rfl)
          go_enter Tryd.func48, Tryd.ntmps48
          go_wp2_with (first
            | (go_at_call 41; refine (risName_calls _ _ HS.out).mono ?_; rintro e w' ⟨rfl, rfl⟩)
            | (go_at_call 40; refine (risWord_calls _ _).mono ?_; rintro e w' ⟨rfl, rfl⟩)
            | (go_at_call 74; refine (bin_calls _ _).mono ?_; rintro e w' ⟨rfl, rfl⟩)
            | (go_at_call 73; refine HC.out.mono ?_; rintro e w1 ⟨rfl, hb1⟩; have HB1 := Lib.hid hb1; clear hb1))
          go_ret
          exact ⟨by rw [HF.out]; rfl, HB0.out.trans (HB1.out.mono HB0.out.size)⟩

set_option maxRecDepth 100000 in
set_option maxHeartbeats 4000000 in
theorem rexpr_19 (h : Nat) (hh : h ≤ 200) (ia : AllR h) (d : Nat) (w : World) (t : Tree) (sl : Value) (hk : Kids w d t.l sl) (hok : t.ok) (hct : t.count ≤ 1073741824) (hop : t.op = 19) :
    Calls Tryd.prog 48 #[.agg #[.int .i64 t.op, .string t.s, .int .i64 t.n, sl, .int .i64 t.line], .int .i64 ((h + 1 : Nat) : Int)] w fun e w' => e = .returned (.bool (exprB (h + 1) t)) ∧ Below w.heap.size w w' := by
  obtain ⟨hlen, A, c, rfl⟩ := hk.form
  unfold maxLen at hlen
  have HFORM := Lib.hid (form_19 h t hop)
  rw [hop]
  obtain ⟨w0, hw0⟩ : ∃ w0, w.alloc (.cells #[.int .i64 19, .string t.s, .int .i64 t.n, .slice A t.l.length c, .int .i64 t.line] 24) = w0 := ⟨_, rfl⟩
  have bx : Blk5 w0 w.heap.size 19 t.s t.n (.slice A t.l.length c) t.line := by rw [← hw0]; exact blk5_new _ _ _ _ _ _
  have hb0 : Below w.heap.size w w0 := by rw [← hw0]; exact (Below.refl _ _).alloc (Nat.le_refl _) _
  have HB0 := Lib.hid hb0
  have HS := Lib.hid hok.1
  have hct' : counts t.l ≤ 1073741824 := by rw [count_eq] at hct; omega
  have HC := Lib.hid (ia d w0 t.l _ (hk.below hb0) hct')
  have HX := Lib.hid bx
  obtain ⟨c0, c1, c2, c3, c4⟩ := bx
  clear hb0 hk hok hct hct' hop ia
  obtain ⟨H, hH⟩ : ∃ H : Int, ((h + 1 : Nat) : Int) = H := ⟨_, rfl⟩
  rw [hH]
  have hH0 : decide (H < 1) = false := by simp; omega
  have hH1 : H - 1 = (h : Int) := by omega
  have hH2 : 0 ≤ H := by omega
  have hH3 : H ≤ 201 := by omega
  clear hH
  cases hE : t.s.toList.isEmpty with
  | false =>
    have hE' : t.s.data.toList.isEmpty = false := by rw [← ByteArray.toList_eq]; exact hE
    have HF : Hid (exprB (h + 1) t = false) := Lib.hid (by rw [HFORM.out, hE']; rfl)
    go_enter Tryd.func48, Tryd.ntmps48
    go_wp2_with (first
      | (go_at_call 41; refine (risName_calls _ _ HS.out).mono ?_; rintro e w' ⟨rfl, rfl⟩)
      | (go_at_call 40; refine (risWord_calls _ _).mono ?_; rintro e w' ⟨rfl, rfl⟩))
    go_ret
    exact ⟨by rw [HF.out]; rfl, HB0.out⟩
  | true =>
    have hE' : t.s.data.toList.isEmpty = true := by rw [← ByteArray.toList_eq]; exact hE
    cases hN : (t.n == 0) with
    | false =>
      have HF : Hid (exprB (h + 1) t = false) := Lib.hid (by rw [HFORM.out, hE', hN]; rfl)
      go_enter Tryd.func48, Tryd.ntmps48
      go_wp2_with (first
        | (go_at_call 41; refine (risName_calls _ _ HS.out).mono ?_; rintro e w' ⟨rfl, rfl⟩)
        | (go_at_call 40; refine (risWord_calls _ _).mono ?_; rintro e w' ⟨rfl, rfl⟩))
      go_ret
      exact ⟨by rw [HF.out]; rfl, HB0.out⟩
    | true =>
      cases hL1 : ((t.l.length : Int) == 1) with
      | false =>
        have HF : Hid (exprB (h + 1) t = false) := Lib.hid (by rw [HFORM.out, hE', hN, hL1]; rfl)
        go_enter Tryd.func48, Tryd.ntmps48
        go_wp2_with (first
          | (go_at_call 41; refine (risName_calls _ _ HS.out).mono ?_; rintro e w' ⟨rfl, rfl⟩)
          | (go_at_call 40; refine (risWord_calls _ _).mono ?_; rintro e w' ⟨rfl, rfl⟩))
        go_ret
        exact ⟨by rw [HF.out]; rfl, HB0.out⟩
      | true =>
        have HF : Hid (exprB (h + 1) t = allB h t.l) := Lib.hid (by rw [HFORM.out, hE', hN, hL1]; rfl)
        go_enter Tryd.func48, Tryd.ntmps48
        go_wp2_with (first
          | (go_at_call 41; refine (risName_calls _ _ HS.out).mono ?_; rintro e w' ⟨rfl, rfl⟩)
          | (go_at_call 40; refine (risWord_calls _ _).mono ?_; rintro e w' ⟨rfl, rfl⟩)
          | (go_at_call 73; refine HC.out.mono ?_; rintro e w1 ⟨rfl, hb1⟩; have HB1 := Lib.hid hb1; clear hb1))
        go_ret
        exact ⟨by rw [HF.out]; rfl, HB0.out.trans (HB1.out.mono HB0.out.size)⟩

end Go.Proofs.YtcidccifnaecaaaDoor

namespace Go.Proofs.YtcidccifnaecaaaDoor
open Go.RowKit

set_option maxRecDepth 100000 in
set_option maxHeartbeats 4000000 in
theorem rexpr_20 (h : Nat) (hh : h ≤ 200) (ia : AllR h) (d : Nat) (w : World) (t : Tree) (sl : Value) (hk : Kids w d t.l sl) (hok : t.ok) (hct : t.count ≤ 1073741824) (hop : t.op = 20) :
    Calls Tryd.prog 48 #[.agg #[.int .i64 t.op, .string t.s, .int .i64 t.n, sl, .int .i64 t.line], .int .i64 ((h + 1 : Nat) : Int)] w fun e w' => e = .returned (.bool (exprB (h + 1) t)) ∧ Below w.heap.size w w' := by
  obtain ⟨hlen, A, c, rfl⟩ := hk.form
  unfold maxLen at hlen
  have HFORM := Lib.hid (form_20 h t hop)
  rw [hop]
  obtain ⟨w0, hw0⟩ : ∃ w0, w.alloc (.cells #[.int .i64 20, .string t.s, .int .i64 t.n, .slice A t.l.length c, .int .i64 t.line] 24) = w0 := ⟨_, rfl⟩
  have bx : Blk5 w0 w.heap.size 20 t.s t.n (.slice A t.l.length c) t.line := by rw [← hw0]; exact blk5_new _ _ _ _ _ _
  have hb0 : Below w.heap.size w w0 := by rw [← hw0]; exact (Below.refl _ _).alloc (Nat.le_refl _) _
  have HB0 := Lib.hid hb0
  have HS := Lib.hid hok.1
  have hct' : counts t.l ≤ 1073741824 := by rw [count_eq] at hct; omega
  have HC := Lib.hid (ia d w0 t.l _ (hk.below hb0) hct')
  have HX := Lib.hid bx
  obtain ⟨c0, c1, c2, c3, c4⟩ := bx
  clear hb0 hk hok hct hct' hop ia
  obtain ⟨H, hH⟩ : ∃ H : Int, ((h + 1 : Nat) : Int) = H := ⟨_, rfl⟩
  rw [hH]
  have hH0 : decide (H < 1) = false := by simp; omega
  have hH1 : H - 1 = (h : Int) := by omega
  have hH2 : 0 ≤ H := by omega
  have hH3 : H ≤ 201 := by omega
  clear hH
  cases hE : t.s.toList.isEmpty with
  | false =>
    have hE' : t.s.data.toList.isEmpty = false := by rw [← ByteArray.toList_eq]; exact hE
    have HF : Hid (exprB (h + 1) t = false) := Lib.hid (by rw [HFORM.out, hE']; rfl)
    go_enter Tryd.func48, Tryd.ntmps48
    go_wp2_with (first
      | (go_at_call 41; refine (risName_calls _ _ HS.out).mono ?_; rintro e w' ⟨rfl, rfl⟩)
      | (go_at_call 40; refine (risWord_calls _ _).mono ?_; rintro e w' ⟨rfl, rfl⟩))
    go_ret
    exact ⟨by rw [HF.out]; rfl, HB0.out⟩
  | true =>
    have hE' : t.s.data.toList.isEmpty = true := by rw [← ByteArray.toList_eq]; exact hE
    cases hN : (t.n == 0) with
    | false =>
      have HF : Hid (exprB (h + 1) t = false) := Lib.hid (by rw [HFORM.out, hE', hN]; rfl)
      go_enter Tryd.func48, Tryd.ntmps48
      go_wp2_with (first
        | (go_at_call 41; refine (risName_calls _ _ HS.out).mono ?_; rintro e w' ⟨rfl, rfl⟩)
        | (go_at_call 40; refine (risWord_calls _ _).mono ?_; rintro e w' ⟨rfl, rfl⟩))
      go_ret
      exact ⟨by rw [HF.out]; rfl, HB0.out⟩
    | true =>
      cases hL1 : ((t.l.length : Int) == 1) with
      | false =>
        have HF : Hid (exprB (h + 1) t = false) := Lib.hid (by rw [HFORM.out, hE', hN, hL1]; rfl)
        go_enter Tryd.func48, Tryd.ntmps48
        go_wp2_with (first
          | (go_at_call 41; refine (risName_calls _ _ HS.out).mono ?_; rintro e w' ⟨rfl, rfl⟩)
          | (go_at_call 40; refine (risWord_calls _ _).mono ?_; rintro e w' ⟨rfl, rfl⟩))
        go_ret
        exact ⟨by rw [HF.out]; rfl, HB0.out⟩
      | true =>
        have HF : Hid (exprB (h + 1) t = allB h t.l) := Lib.hid (by rw [HFORM.out, hE', hN, hL1]; rfl)
        go_enter Tryd.func48, Tryd.ntmps48
        go_wp2_with (first
          | (go_at_call 41; refine (risName_calls _ _ HS.out).mono ?_; rintro e w' ⟨rfl, rfl⟩)
          | (go_at_call 40; refine (risWord_calls _ _).mono ?_; rintro e w' ⟨rfl, rfl⟩)
          | (go_at_call 73; refine HC.out.mono ?_; rintro e w1 ⟨rfl, hb1⟩; have HB1 := Lib.hid hb1; clear hb1))
        go_ret
        exact ⟨by rw [HF.out]; rfl, HB0.out.trans (HB1.out.mono HB0.out.size)⟩

set_option maxRecDepth 100000 in
set_option maxHeartbeats 4000000 in
theorem rexpr_23 (h : Nat) (hh : h ≤ 200) (ia : AllR h) (d : Nat) (w : World) (t : Tree) (sl : Value) (hk : Kids w d t.l sl) (hok : t.ok) (hct : t.count ≤ 1073741824) (hop : t.op = 23) :
    Calls Tryd.prog 48 #[.agg #[.int .i64 t.op, .string t.s, .int .i64 t.n, sl, .int .i64 t.line], .int .i64 ((h + 1 : Nat) : Int)] w fun e w' => e = .returned (.bool (exprB (h + 1) t)) ∧ Below w.heap.size w w' := by
  obtain ⟨hlen, A, c, rfl⟩ := hk.form
  unfold maxLen at hlen
  have HFORM := Lib.hid (form_23 h t hop)
  rw [hop]
  obtain ⟨w0, hw0⟩ : ∃ w0, w.alloc (.cells #[.int .i64 23, .string t.s, .int .i64 t.n, .slice A t.l.length c, .int .i64 t.line] 24) = w0 := ⟨_, rfl⟩
  have bx : Blk5 w0 w.heap.size 23 t.s t.n (.slice A t.l.length c) t.line := by rw [← hw0]; exact blk5_new _ _ _ _ _ _
  have hb0 : Below w.heap.size w w0 := by rw [← hw0]; exact (Below.refl _ _).alloc (Nat.le_refl _) _
  have HB0 := Lib.hid hb0
  have HS := Lib.hid hok.1
  have hct' : counts t.l ≤ 1073741824 := by rw [count_eq] at hct; omega
  have HC := Lib.hid (ia d w0 t.l _ (hk.below hb0) hct')
  have HX := Lib.hid bx
  obtain ⟨c0, c1, c2, c3, c4⟩ := bx
  clear hb0 hk hok hct hct' hop ia
  obtain ⟨H, hH⟩ : ∃ H : Int, ((h + 1 : Nat) : Int) = H := ⟨_, rfl⟩
  rw [hH]
  have hH0 : decide (H < 1) = false := by simp; omega
  have hH1 : H - 1 = (h : Int) := by omega
  have hH2 : 0 ≤ H := by omega
  have hH3 : H ≤ 201 := by omega
  clear hH
  cases hE : t.s.toList.isEmpty with
  | false =>
    have hE' : t.s.data.toList.isEmpty = false := by rw [← ByteArray.toList_eq]; exact hE
    have HF : Hid (exprB (h + 1) t = false) := Lib.hid (by rw [HFORM.out, hE']; rfl)
    go_enter Tryd.func48, Tryd.ntmps48
    go_wp2_with (first
      | (go_at_call 41; refine (risName_calls _ _ HS.out).mono ?_; rintro e w' ⟨rfl, rfl⟩)
      | (go_at_call 40; refine (risWord_calls _ _).mono ?_; rintro e w' ⟨rfl, rfl⟩))
    go_ret
    exact ⟨by rw [HF.out]; rfl, HB0.out⟩
  | true =>
    have hE' : t.s.data.toList.isEmpty = true := by rw [← ByteArray.toList_eq]; exact hE
    cases hN : (t.n == 0) with
    | false =>
      have HF : Hid (exprB (h + 1) t = false) := Lib.hid (by rw [HFORM.out, hE', hN]; rfl)
      go_enter Tryd.func48, Tryd.ntmps48
      go_wp2_with (first
        | (go_at_call 41; refine (risName_calls _ _ HS.out).mono ?_; rintro e w' ⟨rfl, rfl⟩)
        | (go_at_call 40; refine (risWord_calls _ _).mono ?_; rintro e w' ⟨rfl, rfl⟩))
      go_ret
      exact ⟨by rw [HF.out]; rfl, HB0.out⟩
    | true =>
      cases hL3 : ((t.l.length : Int) == 3) with
      | false =>
        have HF : Hid (exprB (h + 1) t = false) := Lib.hid (by rw [HFORM.out, hE', hN, hL3]; rfl)
        go_enter Tryd.func48, Tryd.ntmps48
        go_wp2_with (first
          | (go_at_call 41; refine (risName_calls _ _ HS.out).mono ?_; rintro e w' ⟨rfl, rfl⟩)
          | (go_at_call 40; refine (risWord_calls _ _).mono ?_; rintro e w' ⟨rfl, rfl⟩))
        go_ret
        exact ⟨by rw [HF.out]; rfl, HB0.out⟩
      | true =>
        have HF : Hid (exprB (h + 1) t = allB h t.l) := Lib.hid (by rw [HFORM.out, hE', hN, hL3]; rfl)
        go_enter Tryd.func48, Tryd.ntmps48
        go_wp2_with (first
          | (go_at_call 41; refine (risName_calls _ _ HS.out).mono ?_; rintro e w' ⟨rfl, rfl⟩)
          | (go_at_call 40; refine (risWord_calls _ _).mono ?_; rintro e w' ⟨rfl, rfl⟩)
          | (go_at_call 73; refine HC.out.mono ?_; rintro e w1 ⟨rfl, hb1⟩; have HB1 := Lib.hid hb1; clear hb1))
        go_ret
        exact ⟨by rw [HF.out]; rfl, HB0.out.trans (HB1.out.mono HB0.out.size)⟩

end Go.Proofs.YtcidccifnaecaaaDoor

namespace Go.Proofs.YtcidccifnaecaaaDoor
open Go.RowKit

theorem one_len {l : List Tree} (h : ((l.length : Int) == 1) = true) : ∃ a, l = [a] := by
  match l, h with
  | [a], _ => exact ⟨a, rfl⟩
  | [], h => simp at h
  | _ :: _ :: _, h => simp at h; omega

set_option maxRecDepth 100000 in
set_option maxHeartbeats 4000000 in
theorem rexpr_17 (h : Nat) (hh : h ≤ 200) (ia : AllR h) (d : Nat) (w : World) (t : Tree) (sl : Value) (hk : Kids w d t.l sl) (hok : t.ok) (hct : t.count ≤ 1073741824) (hop : t.op = 17) :
    Calls Tryd.prog 48 #[.agg #[.int .i64 t.op, .string t.s, .int .i64 t.n, sl, .int .i64 t.line], .int .i64 ((h + 1 : Nat) : Int)] w fun e w' => e = .returned (.bool (exprB (h + 1) t)) ∧ Below w.heap.size w w' := by
  obtain ⟨hlen, A, c, rfl⟩ := hk.form
  unfold maxLen at hlen
  have HFORM := Lib.hid (form_17 h t hop)
  rw [hop]
  obtain ⟨w0, hw0⟩ : ∃ w0, w.alloc (.cells #[.int .i64 17, .string t.s, .int .i64 t.n, .slice A t.l.length c, .int .i64 t.line] 24) = w0 := ⟨_, rfl⟩
  have bx : Blk5 w0 w.heap.size 17 t.s t.n (.slice A t.l.length c) t.line := by rw [← hw0]; exact blk5_new _ _ _ _ _ _
  have hb0 : Below w.heap.size w w0 := by rw [← hw0]; exact (Below.refl _ _).alloc (Nat.le_refl _) _
  have HB0 := Lib.hid hb0
  have HS := Lib.hid hok.1
  have hct' : counts t.l ≤ 1073741824 := by rw [count_eq] at hct; omega
  have HC := Lib.hid (ia d w0 t.l _ (hk.below hb0) hct')
  have HK := Lib.hid (hk.below hb0)
  have HX := Lib.hid bx
  obtain ⟨c0, c1, c2, c3, c4⟩ := bx
  clear hb0 hk hok hct hct' hop ia
  obtain ⟨H, hH⟩ : ∃ H : Int, ((h + 1 : Nat) : Int) = H := ⟨_, rfl⟩
  rw [hH]
  have hH0 : decide (H < 1) = false := by simp; omega
  have hH1 : H - 1 = (h : Int) := by omega
  have hH2 : 0 ≤ H := by omega
  have hH3 : H ≤ 201 := by omega
  clear hH
  cases hE : t.s.toList.isEmpty with
  | false =>
    have hE' : t.s.data.toList.isEmpty = false := by rw [← ByteArray.toList_eq]; exact hE
    have HF : Hid (exprB (h + 1) t = false) := Lib.hid (by rw [HFORM.out, hE']; rfl)
    go_enter Tryd.func48, Tryd.ntmps48
    go_wp2_with (first
      | (go_at_call 41; refine (risName_calls _ _ HS.out).mono ?_; rintro e w' ⟨rfl, rfl⟩)
      | (go_at_call 40; refine (risWord_calls _ _).mono ?_; rintro e w' ⟨rfl, rfl⟩))
    go_ret
    exact ⟨by rw [HF.out]; rfl, HB0.out⟩
  | true =>
  have hE' : t.s.data.toList.isEmpty = true := by rw [← ByteArray.toList_eq]; exact hE
  cases hN : (t.n == 0) with
  | false =>
    have HF : Hid (exprB (h + 1) t = false) := Lib.hid (by rw [HFORM.out, hE', hN]; rfl)
    go_enter Tryd.func48, Tryd.ntmps48
    go_wp2_with (first
      | (go_at_call 41; refine (risName_calls _ _ HS.out).mono ?_; rintro e w' ⟨rfl, rfl⟩)
      | (go_at_call 40; refine (risWord_calls _ _).mono ?_; rintro e w' ⟨rfl, rfl⟩))
    go_ret
    exact ⟨by rw [HF.out]; rfl, HB0.out⟩
  | true =>
  cases hL2 : ((t.l.length : Int) == 2) with
  | false =>
    have HF : Hid (exprB (h + 1) t = false) := Lib.hid (by rw [HFORM.out, hE', hN, hL2]; rfl)
    go_enter Tryd.func48, Tryd.ntmps48
    go_wp2_with (first
      | (go_at_call 41; refine (risName_calls _ _ HS.out).mono ?_; rintro e w' ⟨rfl, rfl⟩)
      | (go_at_call 40; refine (risWord_calls _ _).mono ?_; rintro e w' ⟨rfl, rfl⟩))
    go_ret
    exact ⟨by rw [HF.out]; rfl, HB0.out⟩
  | true =>
  cases hal : allB h t.l with
  | false =>
    have HC' := HC
    rw [hal] at HC'
    have HF : Hid (exprB (h + 1) t = false) := Lib.hid (by rw [HFORM.out, hE', hN, hL2, hal]; rfl)
    go_enter Tryd.func48, Tryd.ntmps48
    go_wp2_with (first
      | (go_at_call 41; refine (risName_calls _ _ HS.out).mono ?_; rintro e w' ⟨rfl, rfl⟩)
      | (go_at_call 40; refine (risWord_calls _ _).mono ?_; rintro e w' ⟨rfl, rfl⟩)
      | (go_at_call 73; refine HC'.out.mono ?_; rintro e w1 ⟨rfl, hb1⟩; have HB1 := Lib.hid hb1; clear hb1))
    go_ret
    exact ⟨by rw [HF.out]; rfl, HB0.out.trans (HB1.out.mono HB0.out.size)⟩
  | true =>
  have HC' := HC
  rw [hal] at HC'
  obtain ⟨a, b, hl⟩ := len_two hL2
  have hln : 0 < t.l.length := by rw [hl]; exact Nat.zero_lt_succ _
  have HHD : Hid (exprB (h + 1) t = (a.op == 1 || a.op == 13 || a.op == 14)) := Lib.hid (by rw [HFORM.out, hE', hN, hL2, hal, hl]; rfl)
  obtain ⟨p, sa, d1, hd1, rfl, hpa, _, _⟩ := HK.out.at_ (show t.l[0]? = some a by rw [hl]; rfl)
  rw [show p.add (0 * 5) = p from rfl] at hpa
  have HPA := Lib.hid hpa
  clear hpa hl
  cases hH1 : (a.op == 1) with
  | true =>
    have HF : Hid (exprB (h + 1) t = true) := Lib.hid (by rw [HHD.out, hH1]; rfl)
    go_enter Tryd.func48, Tryd.ntmps48
    go_wp2_with (first
      | (go_at_call 41; refine (risName_calls _ _ HS.out).mono ?_; rintro e w' ⟨rfl, rfl⟩)
      | (go_at_call 40; refine (risWord_calls _ _).mono ?_; rintro e w' ⟨rfl, rfl⟩)
      | (go_at_call 73; refine HC'.out.mono ?_; rintro e w1 ⟨rfl, hb1⟩; have HB1 := Lib.hid hb1; obtain ⟨d0, d1', d2, d3, d4⟩ := HX.out.keep hb1; obtain ⟨e0, e1, e2, e3, e4⟩ := HPA.out.below hb1; clear hb1))
    go_ret
    exact ⟨by rw [HF.out]; rfl, HB0.out.trans (HB1.out.mono HB0.out.size)⟩
  | false =>
  cases hH13 : (a.op == 13) with
  | true =>
    have HF : Hid (exprB (h + 1) t = true) := Lib.hid (by rw [HHD.out, hH1, hH13]; rfl)
    go_enter Tryd.func48, Tryd.ntmps48
    go_wp2_with (first
      | (go_at_call 41; refine (risName_calls _ _ HS.out).mono ?_; rintro e w' ⟨rfl, rfl⟩)
      | (go_at_call 40; refine (risWord_calls _ _).mono ?_; rintro e w' ⟨rfl, rfl⟩)
      | (go_at_call 73; refine HC'.out.mono ?_; rintro e w1 ⟨rfl, hb1⟩; have HB1 := Lib.hid hb1; obtain ⟨d0, d1', d2, d3, d4⟩ := HX.out.keep hb1; obtain ⟨e0, e1, e2, e3, e4⟩ := HPA.out.below hb1; clear hb1))
    go_ret
    exact ⟨by rw [HF.out]; rfl, HB0.out.trans (HB1.out.mono HB0.out.size)⟩
  | false =>
  have HF : Hid (exprB (h + 1) t = (a.op == 14)) := Lib.hid (by rw [HHD.out, hH1, hH13]; rfl)
  go_enter Tryd.func48, Tryd.ntmps48
  go_wp2_with (first
    | (go_at_call 41; refine (risName_calls _ _ HS.out).mono ?_; rintro e w' ⟨rfl, rfl⟩)
    | (go_at_call 40; refine (risWord_calls _ _).mono ?_; rintro e w' ⟨rfl, rfl⟩)
    | (go_at_call 73; refine HC'.out.mono ?_; rintro e w1 ⟨rfl, hb1⟩; have HB1 := Lib.hid hb1; obtain ⟨d0, d1', d2, d3, d4⟩ := HX.out.keep hb1; obtain ⟨e0, e1, e2, e3, e4⟩ := HPA.out.below hb1; clear hb1))
  go_ret
  exact ⟨by rw [HF.out]; rfl, HB0.out.trans (HB1.out.mono HB0.out.size)⟩

set_option maxRecDepth 100000 in
set_option maxHeartbeats 4000000 in
theorem rexpr_11 (h : Nat) (hh : h ≤ 200) (ip : ∀ h', h = h' + 1 → ExprR h') (d : Nat) (w : World) (t : Tree) (sl : Value) (hk : Kids w d t.l sl) (hok : t.ok) (hct : t.count ≤ 1073741824) (hop : t.op = 11) :
    Calls Tryd.prog 48 #[.agg #[.int .i64 t.op, .string t.s, .int .i64 t.n, sl, .int .i64 t.line], .int .i64 ((h + 1 : Nat) : Int)] w fun e w' => e = .returned (.bool (exprB (h + 1) t)) ∧ Below w.heap.size w w' := by
  obtain ⟨hlen, A, c, rfl⟩ := hk.form
  unfold maxLen at hlen
  have HFORM := Lib.hid (form_11 h t hop)
  rw [hop]
  obtain ⟨w0, hw0⟩ : ∃ w0, w.alloc (.cells #[.int .i64 11, .string t.s, .int .i64 t.n, .slice A t.l.length c, .int .i64 t.line] 24) = w0 := ⟨_, rfl⟩
  have bx : Blk5 w0 w.heap.size 11 t.s t.n (.slice A t.l.length c) t.line := by rw [← hw0]; exact blk5_new _ _ _ _ _ _
  have hb0 : Below w.heap.size w w0 := by rw [← hw0]; exact (Below.refl _ _).alloc (Nat.le_refl _) _
  have HB0 := Lib.hid hb0
  have HS := Lib.hid hok.1
  have hct' : counts t.l ≤ 1073741824 := by rw [count_eq] at hct; omega
  have HK := Lib.hid (hk.below hb0)
  have HCT := Lib.hid hct'
  have IP := Lib.hid ip
  have HX := Lib.hid bx
  obtain ⟨c0, c1, c2, c3, c4⟩ := bx
  clear hb0 hk hok hct hct' hop ip
  obtain ⟨H, hH⟩ : ∃ H : Int, ((h + 1 : Nat) : Int) = H := ⟨_, rfl⟩
  rw [hH]
  have hH0 : decide (H < 1) = false := by simp; omega
  have hH1 : H - 1 = (h : Int) := by omega
  have hH2 : 0 ≤ H := by omega
  have hH3 : H ≤ 201 := by omega
  clear hH
  cases hE : t.s.toList.isEmpty with
  | false =>
    have hE' : t.s.data.toList.isEmpty = false := by rw [← ByteArray.toList_eq]; exact hE
    have HF : Hid (exprB (h + 1) t = false) := Lib.hid (by rw [HFORM.out, hE']; rfl)
    go_enter Tryd.func48, Tryd.ntmps48
    go_wp2_with (first
      | (go_at_call 41; refine (risName_calls _ _ HS.out).mono ?_; rintro e w' ⟨rfl, rfl⟩)
      | (go_at_call 40; refine (risWord_calls _ _).mono ?_; rintro e w' ⟨rfl, rfl⟩))
    go_ret
    exact ⟨by rw [HF.out]; rfl, HB0.out⟩
  | true =>
  have hE' : t.s.data.toList.isEmpty = true := by rw [← ByteArray.toList_eq]; exact hE
  cases hN : (t.n == 0) with
  | false =>
    have HF : Hid (exprB (h + 1) t = false) := Lib.hid (by rw [HFORM.out, hE', hN]; rfl)
    go_enter Tryd.func48, Tryd.ntmps48
    go_wp2_with (first
      | (go_at_call 41; refine (risName_calls _ _ HS.out).mono ?_; rintro e w' ⟨rfl, rfl⟩)
      | (go_at_call 40; refine (risWord_calls _ _).mono ?_; rintro e w' ⟨rfl, rfl⟩))
    go_ret
    exact ⟨by rw [HF.out]; rfl, HB0.out⟩
  | true =>
  cases hL : decide (200 < (t.l.length : Int)) with
  | true =>
    have HF : Hid (exprB (h + 1) t = false) := Lib.hid (by rw [HFORM.out, hE', hN, hL]; rfl)
    go_enter Tryd.func48, Tryd.ntmps48
    go_wp2_with (first
      | (go_at_call 41; refine (risName_calls _ _ HS.out).mono ?_; rintro e w' ⟨rfl, rfl⟩)
      | (go_at_call 40; refine (risWord_calls _ _).mono ?_; rintro e w' ⟨rfl, rfl⟩))
    go_ret
    exact ⟨by rw [HF.out]; rfl, HB0.out⟩
  | false =>
  have HE : Hid (exprB (h + 1) t = t.l.all (pairB h)) := Lib.hid (by rw [HFORM.out, hE', hN, hL]; rfl)
  go_enter Tryd.func48, Tryd.ntmps48
  go_wp2_with (first
    | (go_at_call 41; refine (risName_calls _ _ HS.out).mono ?_; rintro e w' ⟨rfl, rfl⟩)
    | (go_at_call 40; refine (risWord_calls _ _).mono ?_; rintro e w' ⟨rfl, rfl⟩))
  clear c0 c1 c2 c3 c4
  go_loopw [9] (fun i wr => ∃ k : Nat, k ≤ t.l.length ∧ i = .int .i64 k ∧ t.l.all (pairB h) = (t.l.drop k).all (pairB h) ∧ Below w0.heap.size w0 wr) (fun i _ => t.l.length - (intOf i).toNat)
  case atStart => exact ⟨0, by omega, rfl, rfl, Below.refl _ _⟩
  case round =>
    obtain ⟨k, hkl, rfl, hal, hb⟩ := hrel
    have HAL := Lib.hid hal
    have HB := Lib.hid hb
    clear hal hb
    obtain ⟨c0, c1, c2, c3, c4⟩ := HX.out.keep HB.out
    by_cases hlt : k < t.l.length
    · have hu : t.l[k]? = some t.l[k] := List.getElem?_eq_getElem hlt
      generalize t.l[k] = u at hu
      obtain ⟨p, su, d1, hd1, rfl, hpu, hku, huk⟩ := HK.out.at_ hu
      obtain ⟨_, A3, c3', rfl⟩ := hku.form
      have HKU := Lib.hid (hku.below HB.out)
      have HCU := Lib.hid (Nat.le_trans (count_at hu) HCT.out)
      have HN : Hid (t.l.all (pairB h) = (pairB h u && (t.l.drop (k + 1)).all (pairB h))) := Lib.hid (by rw [HAL.out, drop_at hu]; rfl)
      obtain ⟨a0, a1, a2, a3, a4⟩ := hpu.below HB.out
      have HBA : Hid (Below w.heap.size w wr) := Lib.hid (HB0.out.trans (HB.out.mono HB0.out.size))
      have hnew : ∀ x y : World, Below w.heap.size x y → True := fun _ _ _ => trivial
      clear hu hpu hku huk hnew
      cases hh2 : decide (H < 2) with
      | true =>
        have HF : Hid (exprB (h + 1) t = false) := Lib.hid (by
          obtain rfl : h = 0 := by have := of_decide_eq_true hh2; omega
          rw [HE.out, HN.out, pairB]
          simp)
        go_wp2
        go_ret
        exact ⟨by rw [HF.out]; rfl, HBA.out.alloc HBA.out.size _⟩
      | false =>
      obtain ⟨h', hh'⟩ : ∃ h', h = h' + 1 := ⟨h - 1, by have := of_decide_eq_false hh2; omega⟩
      cases ho : (u.op == 12) with
      | false =>
        have hob : (u.op != 12) = true := by rw [bne, ho]; rfl
        have HF : Hid (exprB (h + 1) t = false) := Lib.hid (by rw [HE.out, HN.out, show pairB h u = false by simp [pairB, ho]]; rfl)
        go_wp2
        go_ret
        exact ⟨by rw [HF.out]; rfl, HBA.out.alloc HBA.out.size _⟩
      | true =>
      have hob : (u.op != 12) = false := by rw [bne, ho]; rfl
      cases hn2 : (u.n == 0) with
      | false =>
        have hnb : (u.n != 0) = true := by rw [bne, hn2]; rfl
        have HF : Hid (exprB (h + 1) t = false) := Lib.hid (by rw [HE.out, HN.out, show pairB h u = false by simp [pairB, hn2]]; rfl)
        go_wp2
        go_ret
        exact ⟨by rw [HF.out]; rfl, HBA.out.alloc HBA.out.size _⟩
      | true =>
      have hnb : (u.n != 0) = false := by rw [bne, hn2]; rfl
      cases hl2 : ((u.l.length : Int) == 1) with
      | false =>
        have hlb : ((u.l.length : Int) != 1) = true := by rw [bne, hl2]; rfl
        have HF : Hid (exprB (h + 1) t = false) := Lib.hid (by rw [HE.out, HN.out, show pairB h u = false by simp [pairB, hl2]]; rfl)
        go_wp2
        go_ret
        exact ⟨by rw [HF.out]; rfl, HBA.out.alloc HBA.out.size _⟩
      | true =>
      have hlb : ((u.l.length : Int) != 1) = false := by rw [bne, hl2]; rfl
      obtain ⟨v, hv⟩ : ∃ v, u.l = [v] := one_len hl2
      obtain ⟨q, sv, d2, hd2, rfl, hqv, hkv, hokv⟩ := HKU.out.at_ (show u.l[0]? = some v by rw [hv]; rfl)
      rw [show q.add (0 * 5) = q from rfl] at hqv
      obtain ⟨_, A4, c4', rfl⟩ := hkv.form
      have hln : 0 < u.l.length := by rw [hv]; exact Nat.zero_lt_succ _
      have HPV : Hid (pairB h u = exprB h' v) := Lib.hid (by rw [hh', pairB, ho, hn2, hl2, hv]; simp)
      have hb8 : Below wr.heap.size wr (wr.alloc (.cells #[.int .i64 u.op, .string u.s, .int .i64 u.n, .slice (some q) u.l.length c3', .int .i64 u.line] 24)) := (Below.refl _ _).alloc (Nat.le_refl _) _
      have hcv : v.count ≤ 1073741824 := by have := HCU.out; rw [count_eq, hv] at this; simp [counts] at this; omega
      have HCV := Lib.hid (IP.out h' hh' d2 _ v _ (hkv.below hb8) hokv hcv)
      have hH22 : H - 2 = (h' : Int) := by omega
      obtain ⟨b0, b1, b2, b3, b4⟩ := hqv
      have hqlt := World.block_lt_of_cell? _ _ b0
      clear hv hkv hokv hb8
      cases hvb : exprB h' v with
      | false =>
        have HF : Hid (exprB (h + 1) t = false) := Lib.hid (by rw [HE.out, HN.out, HPV.out, hvb]; rfl)
        rw [hvb] at HCV
        go_wp2_with (go_at_call 48; refine HCV.out.mono ?_; rintro e w1 ⟨rfl, hb1⟩; have HB1 := Lib.hid hb1; clear hb1)
        go_ret
        exact ⟨by rw [HF.out]; rfl, (HBA.out.alloc HBA.out.size _).trans (HB1.out.mono (HBA.out.alloc HBA.out.size _).size)⟩
      | true =>
        have HF : Hid (t.l.all (pairB h) = (t.l.drop (k + 1)).all (pairB h)) := Lib.hid (by rw [HN.out, HPV.out, hvb]; rfl)
        rw [hvb] at HCV
        go_wp2_with (go_at_call 48; refine HCV.out.mono ?_; rintro e w1 ⟨rfl, hb1⟩; have HB1 := Lib.hid hb1; clear hb1)
        go_roundw
        case rel => exact ⟨k + 1, by omega, by go_num, HF.out, (HB.out.alloc HB.out.size _).trans (HB1.out.mono (HB.out.alloc HB.out.size _).size)⟩
        case measure => simp [intOf]; omega
    · obtain rfl : k = t.l.length := by omega
      have hdd : decide ((t.l.length : Int) < (t.l.length : Int)) = false := by simp
      have HF : Hid (exprB (h + 1) t = true) := Lib.hid (by rw [HE.out, HAL.out, List.drop_length]; rfl)
      go_wp2
      go_ret
      exact ⟨by rw [HF.out]; rfl, HB0.out.trans (HB.out.mono HB0.out.size)⟩

end Go.Proofs.YtcidccifnaecaaaDoor

