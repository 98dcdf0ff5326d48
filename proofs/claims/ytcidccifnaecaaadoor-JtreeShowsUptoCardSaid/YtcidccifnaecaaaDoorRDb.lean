/- The document's expr, kind by kind, first part: walked. -/
import Derived.Test.YtcidccifnaecaaaDoorRDa
namespace Go.Proofs.YtcidccifnaecaaaDoor
open Go.RowKit

set_option maxRecDepth 100000 in
set_option maxHeartbeats 4000000 in
theorem rexpr_1 (h : Nat) (hh : h ≤ 200) (d : Nat) (w : World) (t : Tree) (sl : Value) (hk : Kids w d t.l sl) (hok : t.ok) (hct : t.count ≤ 1073741824) (hop : t.op = 1) :
    Calls Tryd.prog 48 #[.agg #[.int .i64 t.op, .string t.s, .int .i64 t.n, sl, .int .i64 t.line], .int .i64 ((h + 1 : Nat) : Int)] w fun e w' => e = .returned (.bool (exprB (h + 1) t)) ∧ Below w.heap.size w w' := by
  obtain ⟨hlen, A, c, rfl⟩ := hk.form
  unfold maxLen at hlen
  have HFORM := Lib.hid (form_1 h t hop)
  rw [hop]
  obtain ⟨w0, hw0⟩ : ∃ w0, w.alloc (.cells #[.int .i64 1, .string t.s, .int .i64 t.n, .slice A t.l.length c, .int .i64 t.line] 24) = w0 := ⟨_, rfl⟩
  have bx : Blk5 w0 w.heap.size 1 t.s t.n (.slice A t.l.length c) t.line := by rw [← hw0]; exact blk5_new _ _ _ _ _ _
  have hb0 : Below w.heap.size w w0 := by rw [← hw0]; exact (Below.refl _ _).alloc (Nat.le_refl _) _
  have HB0 := Lib.hid hb0
  have HS := Lib.hid hok.1
  have hct' : counts t.l ≤ 1073741824 := by rw [count_eq] at hct; omega
  have HX := Lib.hid bx
  obtain ⟨c0, c1, c2, c3, c4⟩ := bx
  clear hb0 hk hok hct hct' hop
  obtain ⟨H, hH⟩ : ∃ H : Int, ((h + 1 : Nat) : Int) = H := ⟨_, rfl⟩
  rw [hH]
  have hH0 : decide (H < 1) = false := by simp; omega
  have hH1 : H - 1 = (h : Int) := by omega
  have hH2 : 0 ≤ H := by omega
  have hH3 : H ≤ 201 := by omega
  clear hH
  cases hE : t.s.toList.isEmpty with
  | false =>
    have hE' : t.s.data.toList.isEmpty = false := by rw [← ByteArray.toList_eq]; exact hE
    cases hNM : nameB t.s.data.toList with
    | false =>
      have HF : Hid (exprB (h + 1) t = false) := Lib.hid (by rw [HFORM.out, hNM]; rfl)
      go_enter Tryd.func48, Tryd.ntmps48
      go_wp2_with (first
        | (go_at_call 41; refine (risName_calls _ _ HS.out).mono ?_; rintro e w' ⟨rfl, rfl⟩)
        | (go_at_call 40; refine (risWord_calls _ _).mono ?_; rintro e w' ⟨rfl, rfl⟩))
      go_ret
      exact ⟨by rw [HF.out]; rfl, HB0.out⟩
    | true =>
      cases hN : (t.n == 0) with
      | false =>
        have HF : Hid (exprB (h + 1) t = false) := Lib.hid (by rw [HFORM.out, hNM, hN]; rfl)
        go_enter Tryd.func48, Tryd.ntmps48
        go_wp2_with (first
          | (go_at_call 41; refine (risName_calls _ _ HS.out).mono ?_; rintro e w' ⟨rfl, rfl⟩)
          | (go_at_call 40; refine (risWord_calls _ _).mono ?_; rintro e w' ⟨rfl, rfl⟩))
        go_ret
        exact ⟨by rw [HF.out]; rfl, HB0.out⟩
      | true =>
        cases hL0 : ((t.l.length : Int) == 0) with
        | false =>
          have HF : Hid (exprB (h + 1) t = false) := Lib.hid (by rw [HFORM.out, hNM, hN, hL0]; rfl)
          go_enter Tryd.func48, Tryd.ntmps48
          go_wp2_with (first
            | (go_at_call 41; refine (risName_calls _ _ HS.out).mono ?_; rintro e w' ⟨rfl, rfl⟩)
            | (go_at_call 40; refine (risWord_calls _ _).mono ?_; rintro e w' ⟨rfl, rfl⟩))
          go_ret
          exact ⟨by rw [HF.out]; rfl, HB0.out⟩
        | true =>
          have HF : Hid (exprB (h + 1) t = true) := Lib.hid (by rw [HFORM.out, hNM, hN, hL0]; rfl)
          go_enter Tryd.func48, Tryd.ntmps48
          go_wp2_with (first
            | (go_at_call 41; refine (risName_calls _ _ HS.out).mono ?_; rintro e w' ⟨rfl, rfl⟩)
            | (go_at_call 40; refine (risWord_calls _ _).mono ?_; rintro e w' ⟨rfl, rfl⟩))
          go_ret
          exact ⟨by rw [HF.out]; rfl, HB0.out⟩
  | true =>
    have hE' : t.s.data.toList.isEmpty = true := by rw [← ByteArray.toList_eq]; exact hE
    cases hN : (t.n == 0) with
    | false =>
      cases hNM : nameB t.s.data.toList with
      | false =>
        have HF : Hid (exprB (h + 1) t = false) := Lib.hid (by rw [HFORM.out, hNM]; rfl)
        go_enter Tryd.func48, Tryd.ntmps48
        go_wp2_with (first
          | (go_at_call 41; refine (risName_calls _ _ HS.out).mono ?_; rintro e w' ⟨rfl, rfl⟩)
          | (go_at_call 40; refine (risWord_calls _ _).mono ?_; rintro e w' ⟨rfl, rfl⟩))
        go_ret
        exact ⟨by rw [HF.out]; rfl, HB0.out⟩
      | true =>
        have HF : Hid (exprB (h + 1) t = false) := Lib.hid (by rw [HFORM.out, hNM, hN]; rfl)
        go_enter Tryd.func48, Tryd.ntmps48
        go_wp2_with (first
          | (go_at_call 41; refine (risName_calls _ _ HS.out).mono ?_; rintro e w' ⟨rfl, rfl⟩)
          | (go_at_call 40; refine (risWord_calls _ _).mono ?_; rintro e w' ⟨rfl, rfl⟩))
        go_ret
        exact ⟨by rw [HF.out]; rfl, HB0.out⟩
    | true =>
      cases hNM : nameB t.s.data.toList with
      | false =>
        have HF : Hid (exprB (h + 1) t = false) := Lib.hid (by rw [HFORM.out, hNM]; rfl)
        go_enter Tryd.func48, Tryd.ntmps48
        go_wp2_with (first
          | (go_at_call 41; refine (risName_calls _ _ HS.out).mono ?_; rintro e w' ⟨rfl, rfl⟩)
          | (go_at_call 40; refine (risWord_calls _ _).mono ?_; rintro e w' ⟨rfl, rfl⟩))
        go_ret
        exact ⟨by rw [HF.out]; rfl, HB0.out⟩
      | true =>
        cases hL0 : ((t.l.length : Int) == 0) with
        | false =>
          have HF : Hid (exprB (h + 1) t = false) := Lib.hid (by rw [HFORM.out, hNM, hN, hL0]; rfl)
          go_enter Tryd.func48, Tryd.ntmps48
          go_wp2_with (first
            | (go_at_call 41; refine (risName_calls _ _ HS.out).mono ?_; rintro e w' ⟨rfl, rfl⟩)
            | (go_at_call 40; refine (risWord_calls _ _).mono ?_; rintro e w' ⟨rfl, rfl⟩))
          go_ret
          exact ⟨by rw [HF.out]; rfl, HB0.out⟩
        | true =>
          have HF : Hid (exprB (h + 1) t = true) := Lib.hid (by rw [HFORM.out, hNM, hN, hL0]; rfl)
          go_enter Tryd.func48, Tryd.ntmps48
          go_wp2_with (first
            | (go_at_call 41; refine (risName_calls _ _ HS.out).mono ?_; rintro e w' ⟨rfl, rfl⟩)
            | (go_at_call 40; refine (risWord_calls _ _).mono ?_; rintro e w' ⟨rfl, rfl⟩))
          go_ret
          exact ⟨by rw [HF.out]; rfl, HB0.out⟩

set_option maxRecDepth 100000 in
set_option maxHeartbeats 4000000 in
theorem rexpr_2 (h : Nat) (hh : h ≤ 200) (d : Nat) (w : World) (t : Tree) (sl : Value) (hk : Kids w d t.l sl) (hok : t.ok) (hct : t.count ≤ 1073741824) (hop : t.op = 2) :
    Calls Tryd.prog 48 #[.agg #[.int .i64 t.op, .string t.s, .int .i64 t.n, sl, .int .i64 t.line], .int .i64 ((h + 1 : Nat) : Int)] w fun e w' => e = .returned (.bool (exprB (h + 1) t)) ∧ Below w.heap.size w w' := by
  obtain ⟨hlen, A, c, rfl⟩ := hk.form
  unfold maxLen at hlen
  have HFORM := Lib.hid (form_2 h t hop)
  rw [hop]
  obtain ⟨w0, hw0⟩ : ∃ w0, w.alloc (.cells #[.int .i64 2, .string t.s, .int .i64 t.n, .slice A t.l.length c, .int .i64 t.line] 24) = w0 := ⟨_, rfl⟩
  have bx : Blk5 w0 w.heap.size 2 t.s t.n (.slice A t.l.length c) t.line := by rw [← hw0]; exact blk5_new _ _ _ _ _ _
  have hb0 : Below w.heap.size w w0 := by rw [← hw0]; exact (Below.refl _ _).alloc (Nat.le_refl _) _
  have HB0 := Lib.hid hb0
  have HS := Lib.hid hok.1
  have hct' : counts t.l ≤ 1073741824 := by rw [count_eq] at hct; omega
  have HX := Lib.hid bx
  obtain ⟨c0, c1, c2, c3, c4⟩ := bx
  clear hb0 hk hok hct hct' hop
  obtain ⟨H, hH⟩ : ∃ H : Int, ((h + 1 : Nat) : Int) = H := ⟨_, rfl⟩
  rw [hH]
  have hH0 : decide (H < 1) = false := by simp; omega
  have hH1 : H - 1 = (h : Int) := by omega
  have hH2 : 0 ≤ H := by omega
  have hH3 : H ≤ 201 := by omega
  clear hH
  cases hE : t.s.toList.isEmpty with
  | false =>
    have hE' : t.s.data.toList.isEmpty = false := by rw [← ByteArray.toList_eq]; exact hE
    have HF : Hid (exprB (h + 1) t = false) := Lib.hid (by rw [HFORM.out, hE']; rfl)
    go_enter Tryd.func48, Tryd.ntmps48
    go_wp2_with (first
      | (go_at_call 41; refine (risName_calls _ _ HS.out).mono ?_; rintro e w' ⟨rfl, rfl⟩)
      | (go_at_call 40; refine (risWord_calls _ _).mono ?_; rintro e w' ⟨rfl, rfl⟩))
    go_ret
    exact ⟨by rw [HF.out]; rfl, HB0.out⟩
  | true =>
    have hE' : t.s.data.toList.isEmpty = true := by rw [← ByteArray.toList_eq]; exact hE
    cases hN : (t.n == 0) with
    | false =>
      cases hGE0 : decide (0 ≤ t.n) with
      | false =>
        have HF : Hid (exprB (h + 1) t = false) := Lib.hid (by rw [HFORM.out, hE', hGE0]; rfl)
        go_enter Tryd.func48, Tryd.ntmps48
        go_wp2_with (first
          | (go_at_call 41; refine (risName_calls _ _ HS.out).mono ?_; rintro e w' ⟨rfl, rfl⟩)
          | (go_at_call 40; refine (risWord_calls _ _).mono ?_; rintro e w' ⟨rfl, rfl⟩))
        go_ret
        exact ⟨by rw [HF.out]; rfl, HB0.out⟩
      | true =>
        cases hLEM : decide (t.n ≤ 999999999999999) with
        | false =>
          have HF : Hid (exprB (h + 1) t = false) := Lib.hid (by rw [HFORM.out, hE', hGE0, hLEM]; rfl)
          go_enter Tryd.func48, Tryd.ntmps48
          go_wp2_with (first
            | (go_at_call 41; refine (risName_calls _ _ HS.out).mono ?_; rintro e w' ⟨rfl, rfl⟩)
            | (go_at_call 40; refine (risWord_calls _ _).mono ?_; rintro e w' ⟨rfl, rfl⟩))
          go_ret
          exact ⟨by rw [HF.out]; rfl, HB0.out⟩
        | true =>
          cases hL0 : ((t.l.length : Int) == 0) with
          | false =>
            have HF : Hid (exprB (h + 1) t = false) := Lib.hid (by rw [HFORM.out, hE', hGE0, hLEM, hL0]; rfl)
            go_enter Tryd.func48, Tryd.ntmps48
            go_wp2_with (first
              | (go_at_call 41; refine (risName_calls _ _ HS.out).mono ?_; rintro e w' ⟨rfl, rfl⟩)
              | (go_at_call 40; refine (risWord_calls _ _).mono ?_; rintro e w' ⟨rfl, rfl⟩))
            go_ret
            exact ⟨by rw [HF.out]; rfl, HB0.out⟩
          | true =>
            have HF : Hid (exprB (h + 1) t = true) := Lib.hid (by rw [HFORM.out, hE', hGE0, hLEM, hL0]; rfl)
            go_enter Tryd.func48, Tryd.ntmps48
            go_wp2_with (first
              | (go_at_call 41; refine (risName_calls _ _ HS.out).mono ?_; rintro e w' ⟨rfl, rfl⟩)
              | (go_at_call 40; refine (risWord_calls _ _).mono ?_; rintro e w' ⟨rfl, rfl⟩))
            go_ret
            exact ⟨by rw [HF.out]; rfl, HB0.out⟩
    | true =>
      cases hGE0 : decide (0 ≤ t.n) with
      | false =>
        have HF : Hid (exprB (h + 1) t = false) := Lib.hid (by rw [HFORM.out, hE', hGE0]; rfl)
        go_enter Tryd.func48, Tryd.ntmps48
        go_wp2_with (first
          | (go_at_call 41; refine (risName_calls _ _ HS.out).mono ?_; rintro e w' ⟨rfl, rfl⟩)
          | (go_at_call 40; refine (risWord_calls _ _).mono ?_; rintro e w' ⟨rfl, rfl⟩))
        go_ret
        exact ⟨by rw [HF.out]; rfl, HB0.out⟩
      | true =>
        cases hLEM : decide (t.n ≤ 999999999999999) with
        | false =>
          have HF : Hid (exprB (h + 1) t = false) := Lib.hid (by rw [HFORM.out, hE', hGE0, hLEM]; rfl)
          go_enter Tryd.func48, Tryd.ntmps48
          go_wp2_with (first
            | (go_at_call 41; refine (risName_calls _ _ HS.out).mono ?_; rintro e w' ⟨rfl, rfl⟩)
            | (go_at_call 40; refine (risWord_calls _ _).mono ?_; rintro e w' ⟨rfl, rfl⟩))
          go_ret
          exact ⟨by rw [HF.out]; rfl, HB0.out⟩
        | true =>
          cases hL0 : ((t.l.length : Int) == 0) with
          | false =>
            have HF : Hid (exprB (h + 1) t = false) := Lib.hid (by rw [HFORM.out, hE', hGE0, hLEM, hL0]; rfl)
            go_enter Tryd.func48, Tryd.ntmps48
            go_wp2_with (first
              | (go_at_call 41; refine (risName_calls _ _ HS.out).mono ?_; rintro e w' ⟨rfl, rfl⟩)
              | (go_at_call 40; refine (risWord_calls _ _).mono ?_; rintro e w' ⟨rfl, rfl⟩))
            go_ret
            exact ⟨by rw [HF.out]; rfl, HB0.out⟩
          | true =>
            have HF : Hid (exprB (h + 1) t = true) := Lib.hid (by rw [HFORM.out, hE', hGE0, hLEM, hL0]; rfl)
            go_enter Tryd.func48, Tryd.ntmps48
            go_wp2_with (first
              | (go_at_call 41; refine (risName_calls _ _ HS.out).mono ?_; rintro e w' ⟨rfl, rfl⟩)
              | (go_at_call 40; refine (risWord_calls _ _).mono ?_; rintro e w' ⟨rfl, rfl⟩))
            go_ret
            exact ⟨by rw [HF.out]; rfl, HB0.out⟩

set_option maxRecDepth 100000 in
set_option maxHeartbeats 4000000 in
theorem rexpr_3 (h : Nat) (hh : h ≤ 200) (d : Nat) (w : World) (t : Tree) (sl : Value) (hk : Kids w d t.l sl) (hok : t.ok) (hct : t.count ≤ 1073741824) (hop : t.op = 3) :
    Calls Tryd.prog 48 #[.agg #[.int .i64 t.op, .string t.s, .int .i64 t.n, sl, .int .i64 t.line], .int .i64 ((h + 1 : Nat) : Int)] w fun e w' => e = .returned (.bool (exprB (h + 1) t)) ∧ Below w.heap.size w w' := by
  obtain ⟨hlen, A, c, rfl⟩ := hk.form
  unfold maxLen at hlen
  have HFORM := Lib.hid (form_3 h t hop)
  rw [hop]
  obtain ⟨w0, hw0⟩ : ∃ w0, w.alloc (.cells #[.int .i64 3, .string t.s, .int .i64 t.n, .slice A t.l.length c, .int .i64 t.line] 24) = w0 := ⟨_, rfl⟩
  have bx : Blk5 w0 w.heap.size 3 t.s t.n (.slice A t.l.length c) t.line := by rw [← hw0]; exact blk5_new _ _ _ _ _ _
  have hb0 : Below w.heap.size w w0 := by rw [← hw0]; exact (Below.refl _ _).alloc (Nat.le_refl _) _
  have HB0 := Lib.hid hb0
  have HS := Lib.hid hok.1
  have hct' : counts t.l ≤ 1073741824 := by rw [count_eq] at hct; omega
  have HX := Lib.hid bx
  obtain ⟨c0, c1, c2, c3, c4⟩ := bx
  clear hb0 hk hok hct hct' hop
  obtain ⟨H, hH⟩ : ∃ H : Int, ((h + 1 : Nat) : Int) = H := ⟨_, rfl⟩
  rw [hH]
  have hH0 : decide (H < 1) = false := by simp; omega
  have hH1 : H - 1 = (h : Int) := by omega
  have hH2 : 0 ≤ H := by omega
  have hH3 : H ≤ 201 := by omega
  clear hH
  cases hE : t.s.toList.isEmpty with
  | false =>
    have hE' : t.s.data.toList.isEmpty = false := by rw [← ByteArray.toList_eq]; exact hE
    cases hN : (t.n == 0) with
    | false =>
      have HF : Hid (exprB (h + 1) t = false) := Lib.hid (by rw [HFORM.out, hN]; rfl)
      go_enter Tryd.func48, Tryd.ntmps48
      go_wp2_with (first
        | (go_at_call 41; refine (risName_calls _ _ HS.out).mono ?_; rintro e w' ⟨rfl, rfl⟩)
        | (go_at_call 40; refine (risWord_calls _ _).mono ?_; rintro e w' ⟨rfl, rfl⟩))
      go_ret
      exact ⟨by rw [HF.out]; rfl, HB0.out⟩
    | true =>
      cases hL0 : ((t.l.length : Int) == 0) with
      | false =>
        have HF : Hid (exprB (h + 1) t = false) := Lib.hid (by rw [HFORM.out, hN, hL0]; rfl)
        go_enter Tryd.func48, Tryd.ntmps48
        go_wp2_with (first
          | (go_at_call 41; refine (risName_calls _ _ HS.out).mono ?_; rintro e w' ⟨rfl, rfl⟩)
          | (go_at_call 40; refine (risWord_calls _ _).mono ?_; rintro e w' ⟨rfl, rfl⟩))
        go_ret
        exact ⟨by rw [HF.out]; rfl, HB0.out⟩
      | true =>
        have HF : Hid (exprB (h + 1) t = true) := Lib.hid (by rw [HFORM.out, hN, hL0]; rfl)
        go_enter Tryd.func48, Tryd.ntmps48
        go_wp2_with (first
          | (go_at_call 41; refine (risName_calls _ _ HS.out).mono ?_; rintro e w' ⟨rfl, rfl⟩)
          | (go_at_call 40; refine (risWord_calls _ _).mono ?_; rintro e w' ⟨rfl, rfl⟩))
        go_ret
        exact ⟨by rw [HF.out]; rfl, HB0.out⟩
  | true =>
    have hE' : t.s.data.toList.isEmpty = true := by rw [← ByteArray.toList_eq]; exact hE
    cases hN : (t.n == 0) with
    | false =>
      have HF : Hid (exprB (h + 1) t = false) := Lib.hid (by rw [HFORM.out, hN]; rfl)
      go_enter Tryd.func48, Tryd.ntmps48
      go_wp2_with (first
        | (go_at_call 41; refine (risName_calls _ _ HS.out).mono ?_; rintro e w' ⟨rfl, rfl⟩)
        | (go_at_call 40; refine (risWord_calls _ _).mono ?_; rintro e w' ⟨rfl, rfl⟩))
      go_ret
      exact ⟨by rw [HF.out]; rfl, HB0.out⟩
    | true =>
      cases hL0 : ((t.l.length : Int) == 0) with
      | false =>
        have HF : Hid (exprB (h + 1) t = false) := Lib.hid (by rw [HFORM.out, hN, hL0]; rfl)
        go_enter Tryd.func48, Tryd.ntmps48
        go_wp2_with (first
          | (go_at_call 41; refine (risName_calls _ _ HS.out).mono ?_; rintro e w' ⟨rfl, rfl⟩)
          | (go_at_call 40; refine (risWord_calls _ _).mono ?_; rintro e w' ⟨rfl, rfl⟩))
        go_ret
        exact ⟨by rw [HF.out]; rfl, HB0.out⟩
      | true =>
        have HF : Hid (exprB (h + 1) t = true) := Lib.hid (by rw [HFORM.out, hN, hL0]; rfl)
        go_enter Tryd.func48, Tryd.ntmps48
        go_wp2_with (first
          | (go_at_call 41; refine (risName_calls _ _ HS.out).mono ?_; rintro e w' ⟨rfl, rfl⟩)
          | (go_at_call 40; refine (risWord_calls _ _).mono ?_; rintro e w' ⟨rfl, rfl⟩))
        go_ret
        exact ⟨by rw [HF.out]; rfl, HB0.out⟩

set_option maxRecDepth 100000 in
set_option maxHeartbeats 4000000 in
theorem rexpr_4 (h : Nat) (hh : h ≤ 200) (d : Nat) (w : World) (t : Tree) (sl : Value) (hk : Kids w d t.l sl) (hok : t.ok) (hct : t.count ≤ 1073741824) (hop : t.op = 4) :
    Calls Tryd.prog 48 #[.agg #[.int .i64 t.op, .string t.s, .int .i64 t.n, sl, .int .i64 t.line], .int .i64 ((h + 1 : Nat) : Int)] w fun e w' => e = .returned (.bool (exprB (h + 1) t)) ∧ Below w.heap.size w w' := by
  obtain ⟨hlen, A, c, rfl⟩ := hk.form
  unfold maxLen at hlen
  have HFORM := Lib.hid (form_4 h t hop)
  rw [hop]
  obtain ⟨w0, hw0⟩ : ∃ w0, w.alloc (.cells #[.int .i64 4, .string t.s, .int .i64 t.n, .slice A t.l.length c, .int .i64 t.line] 24) = w0 := ⟨_, rfl⟩
  have bx : Blk5 w0 w.heap.size 4 t.s t.n (.slice A t.l.length c) t.line := by rw [← hw0]; exact blk5_new _ _ _ _ _ _
  have hb0 : Below w.heap.size w w0 := by rw [← hw0]; exact (Below.refl _ _).alloc (Nat.le_refl _) _
  have HB0 := Lib.hid hb0
  have HS := Lib.hid hok.1
  have hct' : counts t.l ≤ 1073741824 := by rw [count_eq] at hct; omega
  have HX := Lib.hid bx
  obtain ⟨c0, c1, c2, c3, c4⟩ := bx
  clear hb0 hk hok hct hct' hop
  obtain ⟨H, hH⟩ : ∃ H : Int, ((h + 1 : Nat) : Int) = H := ⟨_, rfl⟩
  rw [hH]
  have hH0 : decide (H < 1) = false := by simp; omega
  have hH1 : H - 1 = (h : Int) := by omega
  have hH2 : 0 ≤ H := by omega
  have hH3 : H ≤ 201 := by omega
  clear hH
  cases hE : t.s.toList.isEmpty with
  | false =>
    have hE' : t.s.data.toList.isEmpty = false := by rw [← ByteArray.toList_eq]; exact hE
    have HF : Hid (exprB (h + 1) t = false) := Lib.hid (by rw [HFORM.out, hE']; rfl)
    go_enter Tryd.func48, Tryd.ntmps48
    go_wp2_with (first
      | (go_at_call 41; refine (risName_calls _ _ HS.out).mono ?_; rintro e w' ⟨rfl, rfl⟩)
      | (go_at_call 40; refine (risWord_calls _ _).mono ?_; rintro e w' ⟨rfl, rfl⟩))
    go_ret
    exact ⟨by rw [HF.out]; rfl, HB0.out⟩
  | true =>
    have hE' : t.s.data.toList.isEmpty = true := by rw [← ByteArray.toList_eq]; exact hE
    cases hN : (t.n == 0) with
    | false =>
      have HF : Hid (exprB (h + 1) t = false) := Lib.hid (by rw [HFORM.out, hE', hN]; rfl)
      go_enter Tryd.func48, Tryd.ntmps48
      go_wp2_with (first
        | (go_at_call 41; refine (risName_calls _ _ HS.out).mono ?_; rintro e w' ⟨rfl, rfl⟩)
        | (go_at_call 40; refine (risWord_calls _ _).mono ?_; rintro e w' ⟨rfl, rfl⟩))
      go_ret
      exact ⟨by rw [HF.out]; rfl, HB0.out⟩
    | true =>
      cases hL0 : ((t.l.length : Int) == 0) with
      | false =>
        have HF : Hid (exprB (h + 1) t = false) := Lib.hid (by rw [HFORM.out, hE', hN, hL0]; rfl)
        go_enter Tryd.func48, Tryd.ntmps48
        go_wp2_with (first
          | (go_at_call 41; refine (risName_calls _ _ HS.out).mono ?_; rintro e w' ⟨rfl, rfl⟩)
          | (go_at_call 40; refine (risWord_calls _ _).mono ?_; rintro e w' ⟨rfl, rfl⟩))
        go_ret
        exact ⟨by rw [HF.out]; rfl, HB0.out⟩
      | true =>
        have HF : Hid (exprB (h + 1) t = true) := Lib.hid (by rw [HFORM.out, hE', hN, hL0]; rfl)
        go_enter Tryd.func48, Tryd.ntmps48
        go_wp2_with (first
          | (go_at_call 41; refine (risName_calls _ _ HS.out).mono ?_; rintro e w' ⟨rfl, rfl⟩)
          | (go_at_call 40; refine (risWord_calls _ _).mono ?_; rintro e w' ⟨rfl, rfl⟩))
        go_ret
        exact ⟨by rw [HF.out]; rfl, HB0.out⟩

set_option maxRecDepth 100000 in
set_option maxHeartbeats 4000000 in
theorem rexpr_13 (h : Nat) (hh : h ≤ 200) (ia : AllR h) (d : Nat) (w : World) (t : Tree) (sl : Value) (hk : Kids w d t.l sl) (hok : t.ok) (hct : t.count ≤ 1073741824) (hop : t.op = 13) :
    Calls Tryd.prog 48 #[.agg #[.int .i64 t.op, .string t.s, .int .i64 t.n, sl, .int .i64 t.line], .int .i64 ((h + 1 : Nat) : Int)] w fun e w' => e = .returned (.bool (exprB (h + 1) t)) ∧ Below w.heap.size w w' := by
  obtain ⟨hlen, A, c, rfl⟩ := hk.form
  unfold maxLen at hlen
  have HFORM := Lib.hid (form_13 h t hop)
  rw [hop]
  obtain ⟨w0, hw0⟩ : ∃ w0, w.alloc (.cells #[.int .i64 13, .string t.s, .int .i64 t.n, .slice A t.l.length c, .int .i64 t.line] 24) = w0 := ⟨_, rfl⟩
  have bx : Blk5 w0 w.heap.size 13 t.s t.n (.slice A t.l.length c) t.line := by rw [← hw0]; exact blk5_new _ _ _ _ _ _
  have hb0 : Below w.heap.size w w0 := by rw [← hw0]; exact (Below.refl _ _).alloc (Nat.le_refl _) _
  have HB0 := Lib.hid hb0
  have HS := Lib.hid hok.1
  have hct' : counts t.l ≤ 1073741824 := by rw [count_eq] at hct; omega
  have HC := Lib.hid (ia d w0 t.l _ (hk.below hb0) hct')
  have HX := Lib.hid bx
  obtain ⟨c0, c1, c2, c3, c4⟩ := bx
  clear hb0 hk hok hct hct' hop ia
  obtain ⟨H, hH⟩ : ∃ H : Int, ((h + 1 : Nat) : Int) = H := ⟨_, rfl⟩
  rw [hH]
  have hH0 : decide (H < 1) = false := by simp; omega
  have hH1 : H - 1 = (h : Int) := by omega
  have hH2 : 0 ≤ H := by omega
  have hH3 : H ≤ 201 := by omega
  clear hH
  cases hE : t.s.toList.isEmpty with
  | false =>
    have hE' : t.s.data.toList.isEmpty = false := by rw [← ByteArray.toList_eq]; exact hE
    cases hNM : nameB t.s.data.toList with
    | false =>
      cases hWD : wordB t.s.data.toList with
      | false =>
        have HF : Hid (exprB (h + 1) t = false) := Lib.hid (by rw [HFORM.out, hNM, hWD]; rfl)
        go_enter Tryd.func48, Tryd.ntmps48
        go_wp2_with (first
          | (go_at_call 41; refine (risName_calls _ _ HS.out).mono ?_; rintro e w' ⟨rfl, rfl⟩)
          | (go_at_call 40; refine (risWord_calls _ _).mono ?_; rintro e w' ⟨rfl, rfl⟩))
        go_ret
        exact ⟨by rw [HF.out]; rfl, HB0.out⟩
      | true =>
        cases hN : (t.n == 0) with
        | false =>
          have HF : Hid (exprB (h + 1) t = false) := Lib.hid (by rw [HFORM.out, hNM, hWD, hN]; rfl)
          go_enter Tryd.func48, Tryd.ntmps48
          go_wp2_with (first
            | (go_at_call 41; refine (risName_calls _ _ HS.out).mono ?_; rintro e w' ⟨rfl, rfl⟩)
            | (go_at_call 40; refine (risWord_calls _ _).mono ?_; rintro e w' ⟨rfl, rfl⟩))
          go_ret
          exact ⟨by rw [HF.out]; rfl, HB0.out⟩
        | true =>
          cases hL1 : ((t.l.length : Int) == 1) with
          | false =>
            have HF : Hid (exprB (h + 1) t = false) := Lib.hid (by rw [HFORM.out, hNM, hWD, hN, hL1]; rfl)
            go_enter Tryd.func48, Tryd.ntmps48
            go_wp2_with (first
              | (go_at_call 41; refine (risName_calls _ _ HS.out).mono ?_; rintro e w' ⟨rfl, rfl⟩)
              | (go_at_call 40; refine (risWord_calls _ _).mono ?_; rintro e w' ⟨rfl, rfl⟩))
            go_ret
            exact ⟨by rw [HF.out]; rfl, HB0.out⟩
          | true =>
            have HF : Hid (exprB (h + 1) t = allB h t.l) := Lib.hid (by rw [HFORM.out, hNM, hWD, hN, hL1]; rfl)
            go_enter Tryd.func48, Tryd.ntmps48
            go_wp2_with (first
              | (go_at_call 41; refine (risName_calls _ _ HS.out).mono ?_; rintro e w' ⟨rfl, rfl⟩)
              | (go_at_call 40; refine (risWord_calls _ _).mono ?_; rintro e w' ⟨rfl, rfl⟩)
              | (go_at_call 73; refine HC.out.mono ?_; rintro e w1 ⟨rfl, hb1⟩; have HB1 := Lib.hid hb1; clear hb1))
            go_ret
            exact ⟨by rw [HF.out]; rfl, HB0.out.trans (HB1.out.mono HB0.out.size)⟩
    | true =>
      cases hN : (t.n == 0) with
      | false =>
        have HF : Hid (exprB (h + 1) t = false) := Lib.hid (by rw [HFORM.out, hNM, hN]; rfl)
        go_enter Tryd.func48, Tryd.ntmps48
        go_wp2_with (first
          | (go_at_call 41; refine (risName_calls _ _ HS.out).mono ?_; rintro e w' ⟨rfl, rfl⟩)
          | (go_at_call 40; refine (risWord_calls _ _).mono ?_; rintro e w' ⟨rfl, rfl⟩))
        go_ret
        exact ⟨by rw [HF.out]; rfl, HB0.out⟩
      | true =>
        cases hL1 : ((t.l.length : Int) == 1) with
        | false =>
          have HF : Hid (exprB (h + 1) t = false) := Lib.hid (by rw [HFORM.out, hNM, hN, hL1]; rfl)
          go_enter Tryd.func48, Tryd.ntmps48
          go_wp2_with (first
            | (go_at_call 41; refine (risName_calls _ _ HS.out).mono ?_; rintro e w' ⟨rfl, rfl⟩)
            | (go_at_call 40; refine (risWord_calls _ _).mono ?_; rintro e w' ⟨rfl, rfl⟩))
          go_ret
          exact ⟨by rw [HF.out]; rfl, HB0.out⟩
        | true =>
          have HF : Hid (exprB (h + 1) t = allB h t.l) := Lib.hid (by rw [HFORM.out, hNM, hN, hL1]; rfl)
          go_enter Tryd.func48, Tryd.ntmps48
          go_wp2_with (first
            | (go_at_call 41; refine (risName_calls _ _ HS.out).mono ?_; rintro e w' ⟨rfl, rfl⟩)
            | (go_at_call 40; refine (risWord_calls _ _).mono ?_; rintro e w' ⟨rfl, rfl⟩)
            | (go_at_call 73; refine HC.out.mono ?_; rintro e w1 ⟨rfl, hb1⟩; have HB1 := Lib.hid hb1; clear hb1))
          go_ret
          exact ⟨by rw [HF.out]; rfl, HB0.out.trans (HB1.out.mono HB0.out.size)⟩
  | true =>
    have hE' : t.s.data.toList.isEmpty = true := by rw [← ByteArray.toList_eq]; exact hE
    cases hN : (t.n == 0) with
    | false =>
      cases hNM : nameB t.s.data.toList with
      | false =>
        cases hWD : wordB t.s.data.toList with
        | false =>
          have HF : Hid (exprB (h + 1) t = false) := Lib.hid (by rw [HFORM.out, hNM, hWD]; rfl)
          go_enter Tryd.func48, Tryd.ntmps48
          go_wp2_with (first
            | (go_at_call 41; refine (risName_calls _ _ HS.out).mono ?_; rintro e w' ⟨rfl, rfl⟩)
            | (go_at_call 40; refine (risWord_calls _ _).mono ?_; rintro e w' ⟨rfl, rfl⟩))
          go_ret
          exact ⟨by rw [HF.out]; rfl, HB0.out⟩
        | true =>
          have HF : Hid (exprB (h + 1) t = false) := Lib.hid (by rw [HFORM.out, hNM, hWD, hN]; rfl)
          go_enter Tryd.func48, Tryd.ntmps48
          go_wp2_with (first
            | (go_at_call 41; refine (risName_calls _ _ HS.out).mono ?_; rintro e w' ⟨rfl, rfl⟩)
            | (go_at_call 40; refine (risWord_calls _ _).mono ?_; rintro e w' ⟨rfl, rfl⟩))
          go_ret
          exact ⟨by rw [HF.out]; rfl, HB0.out⟩
      | true =>
        have HF : Hid (exprB (h + 1) t = false) := Lib.hid (by rw [HFORM.out, hNM, hN]; rfl)
        go_enter Tryd.func48, Tryd.ntmps48
        go_wp2_with (first
          | (go_at_call 41; refine (risName_calls _ _ HS.out).mono ?_; rintro e w' ⟨rfl, rfl⟩)
          | (go_at_call 40; refine (risWord_calls _ _).mono ?_; rintro e w' ⟨rfl, rfl⟩))
        go_ret
        exact ⟨by rw [HF.out]; rfl, HB0.out⟩
    | true =>
      cases hNM : nameB t.s.data.toList with
      | false =>
        cases hWD : wordB t.s.data.toList with
        | false =>
          have HF : Hid (exprB (h + 1) t = false) := Lib.hid (by rw [HFORM.out, hNM, hWD]; rfl)
          go_enter Tryd.func48, Tryd.ntmps48
          go_wp2_with (first
            | (go_at_call 41; refine (risName_calls _ _ HS.out).mono ?_; rintro e w' ⟨rfl, rfl⟩)
            | (go_at_call 40; refine (risWord_calls _ _).mono ?_; rintro e w' ⟨rfl, rfl⟩))
          go_ret
          exact ⟨by rw [HF.out]; rfl, HB0.out⟩
        | true =>
          cases hL1 : ((t.l.length : Int) == 1) with
          | false =>
            have HF : Hid (exprB (h + 1) t = false) := Lib.hid (by rw [HFORM.out, hNM, hWD, hN, hL1]; rfl)
            go_enter Tryd.func48, Tryd.ntmps48
            go_wp2_with (first
              | (go_at_call 41; refine (risName_calls _ _ HS.out).mono ?_; rintro e w' ⟨rfl, rfl⟩)
              | (go_at_call 40; refine (risWord_calls _ _).mono ?_; rintro e w' ⟨rfl, rfl⟩))
            go_ret
            exact ⟨by rw [HF.out]; rfl, HB0.out⟩
          | true =>
            have HF : Hid (exprB (h + 1) t = allB h t.l) := Lib.hid (by rw [HFORM.out, hNM, hWD, hN, hL1]; rfl)
            go_enter Tryd.func48, Tryd.ntmps48
            go_wp2_with (first
              | (go_at_call 41; refine (risName_calls _ _ HS.out).mono ?_; rintro e w' ⟨rfl, rfl⟩)
              | (go_at_call 40; refine (risWord_calls _ _).mono ?_; rintro e w' ⟨rfl, rfl⟩)
              | (go_at_call 73; refine HC.out.mono ?_; rintro e w1 ⟨rfl, hb1⟩; have HB1 := Lib.hid hb1; clear hb1))
            go_ret
            exact ⟨by rw [HF.out]; rfl, HB0.out.trans (HB1.out.mono HB0.out.size)⟩
      | true =>
        cases hL1 : ((t.l.length : Int) == 1) with
        | false =>
          have HF : Hid (exprB (h + 1) t = false) := Lib.hid (by rw [HFORM.out, hNM, hN, hL1]; rfl)
          go_enter Tryd.func48, Tryd.ntmps48
          go_wp2_with (first
            | (go_at_call 41; refine (risName_calls _ _ HS.out).mono ?_; rintro e w' ⟨rfl, rfl⟩)
            | (go_at_call 40; refine (risWord_calls _ _).mono ?_; rintro e w' ⟨rfl, rfl⟩))
          go_ret
          exact ⟨by rw [HF.out]; rfl, HB0.out⟩
        | true =>
          have HF : Hid (exprB (h + 1) t = allB h t.l) := Lib.hid (by rw [HFORM.out, hNM, hN, hL1]; rfl)
          go_enter Tryd.func48, Tryd.ntmps48
          go_wp2_with (first
            | (go_at_call 41; refine (risName_calls _ _ HS.out).mono ?_; rintro e w' ⟨rfl, rfl⟩)
            | (go_at_call 40; refine (risWord_calls _ _).mono ?_; rintro e w' ⟨rfl, rfl⟩)
            | (go_at_call 73; refine HC.out.mono ?_; rintro e w1 ⟨rfl, hb1⟩; have HB1 := Lib.hid hb1; clear hb1))
          go_ret
          exact ⟨by rw [HF.out]; rfl, HB0.out.trans (HB1.out.mono HB0.out.size)⟩

end Go.Proofs.YtcidccifnaecaaaDoor

namespace Go.Proofs.YtcidccifnaecaaaDoor
open Go.RowKit

set_option maxRecDepth 100000 in
set_option maxHeartbeats 4000000 in
theorem rexpr_5 (h : Nat) (hh : h ≤ 200) (d : Nat) (w : World) (t : Tree) (sl : Value) (hk : Kids w d t.l sl) (hok : t.ok) (hct : t.count ≤ 1073741824) (hop : t.op = 5) :
    Calls Tryd.prog 48 #[.agg #[.int .i64 t.op, .string t.s, .int .i64 t.n, sl, .int .i64 t.line], .int .i64 ((h + 1 : Nat) : Int)] w fun e w' => e = .returned (.bool (exprB (h + 1) t)) ∧ Below w.heap.size w w' := by
  obtain ⟨hlen, A, c, rfl⟩ := hk.form
  unfold maxLen at hlen
  have HFORM := Lib.hid (form_5 h t hop)
  rw [hop]
  obtain ⟨w0, hw0⟩ : ∃ w0, w.alloc (.cells #[.int .i64 5, .string t.s, .int .i64 t.n, .slice A t.l.length c, .int .i64 t.line] 24) = w0 := ⟨_, rfl⟩
  have bx : Blk5 w0 w.heap.size 5 t.s t.n (.slice A t.l.length c) t.line := by rw [← hw0]; exact blk5_new _ _ _ _ _ _
  have hb0 : Below w.heap.size w w0 := by rw [← hw0]; exact (Below.refl _ _).alloc (Nat.le_refl _) _
  have HB0 := Lib.hid hb0
  have HS := Lib.hid hok.1
  have hct' : counts t.l ≤ 1073741824 := by rw [count_eq] at hct; omega
  have HX := Lib.hid bx
  obtain ⟨c0, c1, c2, c3, c4⟩ := bx
  clear hb0 hk hok hct hct' hop
  obtain ⟨H, hH⟩ : ∃ H : Int, ((h + 1 : Nat) : Int) = H := ⟨_, rfl⟩
  rw [hH]
  have hH0 : decide (H < 1) = false := by simp; omega
  have hH1 : H - 1 = (h : Int) := by omega
  have hH2 : 0 ≤ H := by omega
  have hH3 : H ≤ 201 := by omega
  clear hH
  cases hE : t.s.toList.isEmpty with
  | false =>
    have hE' : t.s.data.toList.isEmpty = false := by rw [← ByteArray.toList_eq]; exact hE
    have HF : Hid (exprB (h + 1) t = false) := Lib.hid (by rw [HFORM.out, hE']; rfl)
    go_enter Tryd.func48, Tryd.ntmps48
    go_wp2_with (first
      | (go_at_call 41; refine (risName_calls _ _ HS.out).mono ?_; rintro e w' ⟨rfl, rfl⟩)
      | (go_at_call 40; refine (risWord_calls _ _).mono ?_; rintro e w' ⟨rfl, rfl⟩))
    go_ret
    exact ⟨by rw [HF.out]; rfl, HB0.out⟩
  | true =>
    have hE' : t.s.data.toList.isEmpty = true := by rw [← ByteArray.toList_eq]; exact hE
    cases hN : (t.n == 0) with
    | false =>
      have HF : Hid (exprB (h + 1) t = false) := Lib.hid (by rw [HFORM.out, hE', hN]; rfl)
      go_enter Tryd.func48, Tryd.ntmps48
      go_wp2_with (first
        | (go_at_call 41; refine (risName_calls _ _ HS.out).mono ?_; rintro e w' ⟨rfl, rfl⟩)
        | (go_at_call 40; refine (risWord_calls _ _).mono ?_; rintro e w' ⟨rfl, rfl⟩))
      go_ret
      exact ⟨by rw [HF.out]; rfl, HB0.out⟩
    | true =>
      cases hL0 : ((t.l.length : Int) == 0) with
      | false =>
        have HF : Hid (exprB (h + 1) t = false) := Lib.hid (by rw [HFORM.out, hE', hN, hL0]; rfl)
        go_enter Tryd.func48, Tryd.ntmps48
        go_wp2_with (first
          | (go_at_call 41; refine (risName_calls _ _ HS.out).mono ?_; rintro e w' ⟨rfl, rfl⟩)
          | (go_at_call 40; refine (risWord_calls _ _).mono ?_; rintro e w' ⟨rfl, rfl⟩))
        go_ret
        exact ⟨by rw [HF.out]; rfl, HB0.out⟩
      | true =>
        have HF : Hid (exprB (h + 1) t = true) := Lib.hid (by rw [HFORM.out, hE', hN, hL0]; rfl)
        go_enter Tryd.func48, Tryd.ntmps48
        go_wp2_with (first
          | (go_at_call 41; refine (risName_calls _ _ HS.out).mono ?_; rintro e w' ⟨rfl, rfl⟩)
          | (go_at_call 40; refine (risWord_calls _ _).mono ?_; rintro e w' ⟨rfl, rfl⟩))
        go_ret
        exact ⟨by rw [HF.out]; rfl, HB0.out⟩

set_option maxRecDepth 100000 in
set_option maxHeartbeats 4000000 in
theorem rexpr_6 (h : Nat) (hh : h ≤ 200) (d : Nat) (w : World) (t : Tree) (sl : Value) (hk : Kids w d t.l sl) (hok : t.ok) (hct : t.count ≤ 1073741824) (hop : t.op = 6) :
    Calls Tryd.prog 48 #[.agg #[.int .i64 t.op, .string t.s, .int .i64 t.n, sl, .int .i64 t.line], .int .i64 ((h + 1 : Nat) : Int)] w fun e w' => e = .returned (.bool (exprB (h + 1) t)) ∧ Below w.heap.size w w' := by
  obtain ⟨hlen, A, c, rfl⟩ := hk.form
  unfold maxLen at hlen
  have HFORM := Lib.hid (form_6 h t hop)
  rw [hop]
  obtain ⟨w0, hw0⟩ : ∃ w0, w.alloc (.cells #[.int .i64 6, .string t.s, .int .i64 t.n, .slice A t.l.length c, .int .i64 t.line] 24) = w0 := ⟨_, rfl⟩
  have bx : Blk5 w0 w.heap.size 6 t.s t.n (.slice A t.l.length c) t.line := by rw [← hw0]; exact blk5_new _ _ _ _ _ _
  have hb0 : Below w.heap.size w w0 := by rw [← hw0]; exact (Below.refl _ _).alloc (Nat.le_refl _) _
  have HB0 := Lib.hid hb0
  have HS := Lib.hid hok.1
  have hct' : counts t.l ≤ 1073741824 := by rw [count_eq] at hct; omega
  have HX := Lib.hid bx
  obtain ⟨c0, c1, c2, c3, c4⟩ := bx
  clear hb0 hk hok hct hct' hop
  obtain ⟨H, hH⟩ : ∃ H : Int, ((h + 1 : Nat) : Int) = H := ⟨_, rfl⟩
  rw [hH]
  have hH0 : decide (H < 1) = false := by simp; omega
  have hH1 : H - 1 = (h : Int) := by omega
  have hH2 : 0 ≤ H := by omega
  have hH3 : H ≤ 201 := by omega
  clear hH
  cases hE : t.s.toList.isEmpty with
  | false =>
    have hE' : t.s.data.toList.isEmpty = false := by rw [← ByteArray.toList_eq]; exact hE
    have HF : Hid (exprB (h + 1) t = false) := Lib.hid (by rw [HFORM.out, hE']; rfl)
    go_enter Tryd.func48, Tryd.ntmps48
    go_wp2_with (first
      | (go_at_call 41; refine (risName_calls _ _ HS.out).mono ?_; rintro e w' ⟨rfl, rfl⟩)
      | (go_at_call 40; refine (risWord_calls _ _).mono ?_; rintro e w' ⟨rfl, rfl⟩))
    go_ret
    exact ⟨by rw [HF.out]; rfl, HB0.out⟩
  | true =>
    have hE' : t.s.data.toList.isEmpty = true := by rw [← ByteArray.toList_eq]; exact hE
    cases hN : (t.n == 0) with
    | false =>
      have HF : Hid (exprB (h + 1) t = false) := Lib.hid (by rw [HFORM.out, hE', hN]; rfl)
      go_enter Tryd.func48, Tryd.ntmps48
      go_wp2_with (first
        | (go_at_call 41; refine (risName_calls _ _ HS.out).mono ?_; rintro e w' ⟨rfl, rfl⟩)
        | (go_at_call 40; refine (risWord_calls _ _).mono ?_; rintro e w' ⟨rfl, rfl⟩))
      go_ret
      exact ⟨by rw [HF.out]; rfl, HB0.out⟩
    | true =>
      cases hL0 : ((t.l.length : Int) == 0) with
      | false =>
        have HF : Hid (exprB (h + 1) t = false) := Lib.hid (by rw [HFORM.out, hE', hN, hL0]; rfl)
        go_enter Tryd.func48, Tryd.ntmps48
        go_wp2_with (first
          | (go_at_call 41; refine (risName_calls _ _ HS.out).mono ?_; rintro e w' ⟨rfl, rfl⟩)
          | (go_at_call 40; refine (risWord_calls _ _).mono ?_; rintro e w' ⟨rfl, rfl⟩))
        go_ret
        exact ⟨by rw [HF.out]; rfl, HB0.out⟩
      | true =>
        have HF : Hid (exprB (h + 1) t = true) := Lib.hid (by rw [HFORM.out, hE', hN, hL0]; rfl)
        go_enter Tryd.func48, Tryd.ntmps48
        go_wp2_with (first
          | (go_at_call 41; refine (risName_calls _ _ HS.out).mono ?_; rintro e w' ⟨rfl, rfl⟩)
          | (go_at_call 40; refine (risWord_calls _ _).mono ?_; rintro e w' ⟨rfl, rfl⟩))
        go_ret
        exact ⟨by rw [HF.out]; rfl, HB0.out⟩

set_option maxRecDepth 100000 in
set_option maxHeartbeats 4000000 in
theorem rexpr_7 (h : Nat) (hh : h ≤ 200) (d : Nat) (w : World) (t : Tree) (sl : Value) (hk : Kids w d t.l sl) (hok : t.ok) (hct : t.count ≤ 1073741824) (hop : t.op = 7) :
    Calls Tryd.prog 48 #[.agg #[.int .i64 t.op, .string t.s, .int .i64 t.n, sl, .int .i64 t.line], .int .i64 ((h + 1 : Nat) : Int)] w fun e w' => e = .returned (.bool (exprB (h + 1) t)) ∧ Below w.heap.size w w' := by
  obtain ⟨hlen, A, c, rfl⟩ := hk.form
  unfold maxLen at hlen
  have HFORM := Lib.hid (form_7 h t hop)
  rw [hop]
  obtain ⟨w0, hw0⟩ : ∃ w0, w.alloc (.cells #[.int .i64 7, .string t.s, .int .i64 t.n, .slice A t.l.length c, .int .i64 t.line] 24) = w0 := ⟨_, rfl⟩
  have bx : Blk5 w0 w.heap.size 7 t.s t.n (.slice A t.l.length c) t.line := by rw [← hw0]; exact blk5_new _ _ _ _ _ _
  have hb0 : Below w.heap.size w w0 := by rw [← hw0]; exact (Below.refl _ _).alloc (Nat.le_refl _) _
  have HB0 := Lib.hid hb0
  have HS := Lib.hid hok.1
  have hct' : counts t.l ≤ 1073741824 := by rw [count_eq] at hct; omega
  have HX := Lib.hid bx
  obtain ⟨c0, c1, c2, c3, c4⟩ := bx
  clear hb0 hk hok hct hct' hop
  obtain ⟨H, hH⟩ : ∃ H : Int, ((h + 1 : Nat) : Int) = H := ⟨_, rfl⟩
  rw [hH]
  have hH0 : decide (H < 1) = false := by simp; omega
  have hH1 : H - 1 = (h : Int) := by omega
  have hH2 : 0 ≤ H := by omega
  have hH3 : H ≤ 201 := by omega
  clear hH
  cases hE : t.s.toList.isEmpty with
  | false =>
    have hE' : t.s.data.toList.isEmpty = false := by rw [← ByteArray.toList_eq]; exact hE
    have HF : Hid (exprB (h + 1) t = false) := Lib.hid (by rw [HFORM.out, hE']; rfl)
    go_enter Tryd.func48, Tryd.ntmps48
    go_wp2_with (first
      | (go_at_call 41; refine (risName_calls _ _ HS.out).mono ?_; rintro e w' ⟨rfl, rfl⟩)
      | (go_at_call 40; refine (risWord_calls _ _).mono ?_; rintro e w' ⟨rfl, rfl⟩))
    go_ret
    exact ⟨by rw [HF.out]; rfl, HB0.out⟩
  | true =>
    have hE' : t.s.data.toList.isEmpty = true := by rw [← ByteArray.toList_eq]; exact hE
    cases hN : (t.n == 0) with
    | false =>
      have HF : Hid (exprB (h + 1) t = false) := Lib.hid (by rw [HFORM.out, hE', hN]; rfl)
      go_enter Tryd.func48, Tryd.ntmps48
      go_wp2_with (first
        | (go_at_call 41; refine (risName_calls _ _ HS.out).mono ?_; rintro e w' ⟨rfl, rfl⟩)
        | (go_at_call 40; refine (risWord_calls _ _).mono ?_; rintro e w' ⟨rfl, rfl⟩))
      go_ret
      exact ⟨by rw [HF.out]; rfl, HB0.out⟩
    | true =>
      cases hL0 : ((t.l.length : Int) == 0) with
      | false =>
        have HF : Hid (exprB (h + 1) t = false) := Lib.hid (by rw [HFORM.out, hE', hN, hL0]; rfl)
        go_enter Tryd.func48, Tryd.ntmps48
        go_wp2_with (first
          | (go_at_call 41; refine (risName_calls _ _ HS.out).mono ?_; rintro e w' ⟨rfl, rfl⟩)
          | (go_at_call 40; refine (risWord_calls _ _).mono ?_; rintro e w' ⟨rfl, rfl⟩))
        go_ret
        exact ⟨by rw [HF.out]; rfl, HB0.out⟩
      | true =>
        have HF : Hid (exprB (h + 1) t = true) := Lib.hid (by rw [HFORM.out, hE', hN, hL0]; rfl)
        go_enter Tryd.func48, Tryd.ntmps48
        go_wp2_with (first
          | (go_at_call 41; refine (risName_calls _ _ HS.out).mono ?_; rintro e w' ⟨rfl, rfl⟩)
          | (go_at_call 40; refine (risWord_calls _ _).mono ?_; rintro e w' ⟨rfl, rfl⟩))
        go_ret
        exact ⟨by rw [HF.out]; rfl, HB0.out⟩

set_option maxRecDepth 100000 in
set_option maxHeartbeats 4000000 in
theorem rexpr_8 (h : Nat) (hh : h ≤ 200) (d : Nat) (w : World) (t : Tree) (sl : Value) (hk : Kids w d t.l sl) (hok : t.ok) (hct : t.count ≤ 1073741824) (hop : t.op = 8) :
    Calls Tryd.prog 48 #[.agg #[.int .i64 t.op, .string t.s, .int .i64 t.n, sl, .int .i64 t.line], .int .i64 ((h + 1 : Nat) : Int)] w fun e w' => e = .returned (.bool (exprB (h + 1) t)) ∧ Below w.heap.size w w' := by
  obtain ⟨hlen, A, c, rfl⟩ := hk.form
  unfold maxLen at hlen
  have HFORM := Lib.hid (form_8 h t hop)
  rw [hop]
  obtain ⟨w0, hw0⟩ : ∃ w0, w.alloc (.cells #[.int .i64 8, .string t.s, .int .i64 t.n, .slice A t.l.length c, .int .i64 t.line] 24) = w0 := ⟨_, rfl⟩
  have bx : Blk5 w0 w.heap.size 8 t.s t.n (.slice A t.l.length c) t.line := by rw [← hw0]; exact blk5_new _ _ _ _ _ _
  have hb0 : Below w.heap.size w w0 := by rw [← hw0]; exact (Below.refl _ _).alloc (Nat.le_refl _) _
  have HB0 := Lib.hid hb0
  have HS := Lib.hid hok.1
  have hct' : counts t.l ≤ 1073741824 := by rw [count_eq] at hct; omega
  have HX := Lib.hid bx
  obtain ⟨c0, c1, c2, c3, c4⟩ := bx
  clear hb0 hk hok hct hct' hop
  obtain ⟨H, hH⟩ : ∃ H : Int, ((h + 1 : Nat) : Int) = H := ⟨_, rfl⟩
  rw [hH]
  have hH0 : decide (H < 1) = false := by simp; omega
  have hH1 : H - 1 = (h : Int) := by omega
  have hH2 : 0 ≤ H := by omega
  have hH3 : H ≤ 201 := by omega
  clear hH
  cases hE : t.s.toList.isEmpty with
  | false =>
    have hE' : t.s.data.toList.isEmpty = false := by rw [← ByteArray.toList_eq]; exact hE
    have HF : Hid (exprB (h + 1) t = false) := Lib.hid (by rw [HFORM.out, hE']; rfl)
    go_enter Tryd.func48, Tryd.ntmps48
    go_wp2_with (first
      | (go_at_call 41; refine (risName_calls _ _ HS.out).mono ?_; rintro e w' ⟨rfl, rfl⟩)
      | (go_at_call 40; refine (risWord_calls _ _).mono ?_; rintro e w' ⟨rfl, rfl⟩))
    go_ret
    exact ⟨by rw [HF.out]; rfl, HB0.out⟩
  | true =>
    have hE' : t.s.data.toList.isEmpty = true := by rw [← ByteArray.toList_eq]; exact hE
    cases hN : (t.n == 0) with
    | false =>
      have HF : Hid (exprB (h + 1) t = false) := Lib.hid (by rw [HFORM.out, hE', hN]; rfl)
      go_enter Tryd.func48, Tryd.ntmps48
      go_wp2_with (first
        | (go_at_call 41; refine (risName_calls _ _ HS.out).mono ?_; rintro e w' ⟨rfl, rfl⟩)
        | (go_at_call 40; refine (risWord_calls _ _).mono ?_; rintro e w' ⟨rfl, rfl⟩))
      go_ret
      exact ⟨by rw [HF.out]; rfl, HB0.out⟩
    | true =>
      cases hL0 : ((t.l.length : Int) == 0) with
      | false =>
        have HF : Hid (exprB (h + 1) t = false) := Lib.hid (by rw [HFORM.out, hE', hN, hL0]; rfl)
        go_enter Tryd.func48, Tryd.ntmps48
        go_wp2_with (first
          | (go_at_call 41; refine (risName_calls _ _ HS.out).mono ?_; rintro e w' ⟨rfl, rfl⟩)
          | (go_at_call 40; refine (risWord_calls _ _).mono ?_; rintro e w' ⟨rfl, rfl⟩))
        go_ret
        exact ⟨by rw [HF.out]; rfl, HB0.out⟩
      | true =>
        have HF : Hid (exprB (h + 1) t = true) := Lib.hid (by rw [HFORM.out, hE', hN, hL0]; rfl)
        go_enter Tryd.func48, Tryd.ntmps48
        go_wp2_with (first
          | (go_at_call 41; refine (risName_calls _ _ HS.out).mono ?_; rintro e w' ⟨rfl, rfl⟩)
          | (go_at_call 40; refine (risWord_calls _ _).mono ?_; rintro e w' ⟨rfl, rfl⟩))
        go_ret
        exact ⟨by rw [HF.out]; rfl, HB0.out⟩

set_option maxRecDepth 100000 in
set_option maxHeartbeats 4000000 in
theorem rexpr_9 (h : Nat) (hh : h ≤ 200) (d : Nat) (w : World) (t : Tree) (sl : Value) (hk : Kids w d t.l sl) (hok : t.ok) (hct : t.count ≤ 1073741824) (hop : t.op = 9) :
    Calls Tryd.prog 48 #[.agg #[.int .i64 t.op, .string t.s, .int .i64 t.n, sl, .int .i64 t.line], .int .i64 ((h + 1 : Nat) : Int)] w fun e w' => e = .returned (.bool (exprB (h + 1) t)) ∧ Below w.heap.size w w' := by
  obtain ⟨hlen, A, c, rfl⟩ := hk.form
  unfold maxLen at hlen
  have HFORM := Lib.hid (form_9 h t hop)
  rw [hop]
  obtain ⟨w0, hw0⟩ : ∃ w0, w.alloc (.cells #[.int .i64 9, .string t.s, .int .i64 t.n, .slice A t.l.length c, .int .i64 t.line] 24) = w0 := ⟨_, rfl⟩
  have bx : Blk5 w0 w.heap.size 9 t.s t.n (.slice A t.l.length c) t.line := by rw [← hw0]; exact blk5_new _ _ _ _ _ _
  have hb0 : Below w.heap.size w w0 := by rw [← hw0]; exact (Below.refl _ _).alloc (Nat.le_refl _) _
  have HB0 := Lib.hid hb0
  have HS := Lib.hid hok.1
  have hct' : counts t.l ≤ 1073741824 := by rw [count_eq] at hct; omega
  have HX := Lib.hid bx
  obtain ⟨c0, c1, c2, c3, c4⟩ := bx
  clear hb0 hk hok hct hct' hop
  obtain ⟨H, hH⟩ : ∃ H : Int, ((h + 1 : Nat) : Int) = H := ⟨_, rfl⟩
  rw [hH]
  have hH0 : decide (H < 1) = false := by simp; omega
  have hH1 : H - 1 = (h : Int) := by omega
  have hH2 : 0 ≤ H := by omega
  have hH3 : H ≤ 201 := by omega
  clear hH
  cases hE : t.s.toList.isEmpty with
  | false =>
    have hE' : t.s.data.toList.isEmpty = false := by rw [← ByteArray.toList_eq]; exact hE
    have HF : Hid (exprB (h + 1) t = false) := Lib.hid (by rw [HFORM.out, hE']; rfl)
    go_enter Tryd.func48, Tryd.ntmps48
    go_wp2_with (first
      | (go_at_call 41; refine (risName_calls _ _ HS.out).mono ?_; rintro e w' ⟨rfl, rfl⟩)
      | (go_at_call 40; refine (risWord_calls _ _).mono ?_; rintro e w' ⟨rfl, rfl⟩))
    go_ret
    exact ⟨by rw [HF.out]; rfl, HB0.out⟩
  | true =>
    have hE' : t.s.data.toList.isEmpty = true := by rw [← ByteArray.toList_eq]; exact hE
    cases hN : (t.n == 0) with
    | false =>
      have HF : Hid (exprB (h + 1) t = false) := Lib.hid (by rw [HFORM.out, hE', hN]; rfl)
      go_enter Tryd.func48, Tryd.ntmps48
      go_wp2_with (first
        | (go_at_call 41; refine (risName_calls _ _ HS.out).mono ?_; rintro e w' ⟨rfl, rfl⟩)
        | (go_at_call 40; refine (risWord_calls _ _).mono ?_; rintro e w' ⟨rfl, rfl⟩))
      go_ret
      exact ⟨by rw [HF.out]; rfl, HB0.out⟩
    | true =>
      cases hL0 : ((t.l.length : Int) == 0) with
      | false =>
        have HF : Hid (exprB (h + 1) t = false) := Lib.hid (by rw [HFORM.out, hE', hN, hL0]; rfl)
        go_enter Tryd.func48, Tryd.ntmps48
        go_wp2_with (first
          | (go_at_call 41; refine (risName_calls _ _ HS.out).mono ?_; rintro e w' ⟨rfl, rfl⟩)
          | (go_at_call 40; refine (risWord_calls _ _).mono ?_; rintro e w' ⟨rfl, rfl⟩))
        go_ret
        exact ⟨by rw [HF.out]; rfl, HB0.out⟩
      | true =>
        have HF : Hid (exprB (h + 1) t = true) := Lib.hid (by rw [HFORM.out, hE', hN, hL0]; rfl)
        go_enter Tryd.func48, Tryd.ntmps48
        go_wp2_with (first
          | (go_at_call 41; refine (risName_calls _ _ HS.out).mono ?_; rintro e w' ⟨rfl, rfl⟩)
          | (go_at_call 40; refine (risWord_calls _ _).mono ?_; rintro e w' ⟨rfl, rfl⟩))
        go_ret
        exact ⟨by rw [HF.out]; rfl, HB0.out⟩

end Go.Proofs.YtcidccifnaecaaaDoor

namespace Go.Proofs.YtcidccifnaecaaaDoor
open Go.RowKit

set_option maxRecDepth 100000 in
set_option maxHeartbeats 4000000 in
theorem rexpr_10 (h : Nat) (hh : h ≤ 200) (if_ : FunR h) (d : Nat) (w : World) (t : Tree) (sl : Value) (hk : Kids w d t.l sl) (hok : t.ok) (hct : t.count ≤ 1073741824) (hop : t.op = 10) :
    Calls Tryd.prog 48 #[.agg #[.int .i64 t.op, .string t.s, .int .i64 t.n, sl, .int .i64 t.line], .int .i64 ((h + 1 : Nat) : Int)] w fun e w' => e = .returned (.bool (exprB (h + 1) t)) ∧ Below w.heap.size w w' := by
  obtain ⟨hlen, A, c, rfl⟩ := hk.form
  unfold maxLen at hlen
  have HFORM := Lib.hid (form_10 h t hop)
  rw [hop]
  obtain ⟨w0, hw0⟩ : ∃ w0, w.alloc (.cells #[.int .i64 10, .string t.s, .int .i64 t.n, .slice A t.l.length c, .int .i64 t.line] 24) = w0 := ⟨_, rfl⟩
  have bx : Blk5 w0 w.heap.size 10 t.s t.n (.slice A t.l.length c) t.line := by rw [← hw0]; exact blk5_new _ _ _ _ _ _
  have hb0 : Below w.heap.size w w0 := by rw [← hw0]; exact (Below.refl _ _).alloc (Nat.le_refl _) _
  have HB0 := Lib.hid hb0
  have HS := Lib.hid hok.1
  have hct' : counts t.l ≤ 1073741824 := by rw [count_eq] at hct; omega
  have HC := Lib.hid (if_ d w0 t.l _ (hk.below hb0) hct')
  have HX := Lib.hid bx
  obtain ⟨c0, c1, c2, c3, c4⟩ := bx
  clear hb0 hk hok hct hct' hop if_
  obtain ⟨H, hH⟩ : ∃ H : Int, ((h + 1 : Nat) : Int) = H := ⟨_, rfl⟩
  rw [hH]
  have hH0 : decide (H < 1) = false := by simp; omega
  have hH1 : H - 1 = (h : Int) := by omega
  have hH2 : 0 ≤ H := by omega
  have hH3 : H ≤ 201 := by omega
  clear hH
  cases hE : t.s.toList.isEmpty with
  | false =>
    have hE' : t.s.data.toList.isEmpty = false := by rw [← ByteArray.toList_eq]; exact hE
    cases hNM : nameB t.s.data.toList with
    | false =>
      have HF : Hid (exprB (h + 1) t = false) := Lib.hid (by rw [HFORM.out, hE', hNM]; rfl)
      go_enter Tryd.func48, Tryd.ntmps48
      go_wp2_with (first
        | (go_at_call 41; refine (risName_calls _ _ HS.out).mono ?_; rintro e w' ⟨rfl, rfl⟩)
        | (go_at_call 40; refine (risWord_calls _ _).mono ?_; rintro e w' ⟨rfl, rfl⟩))
      go_ret
      exact ⟨by rw [HF.out]; rfl, HB0.out⟩
    | true =>
      cases hN : (t.n == 0) with
      | false =>
        have HF : Hid (exprB (h + 1) t = false) := Lib.hid (by rw [HFORM.out, hE', hNM, hN]; rfl)
        go_enter Tryd.func48, Tryd.ntmps48
        go_wp2_with (first
          | (go_at_call 41; refine (risName_calls _ _ HS.out).mono ?_; rintro e w' ⟨rfl, rfl⟩)
          | (go_at_call 40; refine (risWord_calls _ _).mono ?_; rintro e w' ⟨rfl, rfl⟩))
        go_ret
        exact ⟨by rw [HF.out]; rfl, HB0.out⟩
      | true =>
        have HF : Hid (exprB (h + 1) t = funB h t.l) := Lib.hid (by rw [HFORM.out, hE', hNM, hN]; rfl)
        go_enter Tryd.func48, Tryd.ntmps48
        go_wp2_with (first
          | (go_at_call 41; refine (risName_calls _ _ HS.out).mono ?_; rintro e w' ⟨rfl, rfl⟩)
          | (go_at_call 40; refine (risWord_calls _ _).mono ?_; rintro e w' ⟨rfl, rfl⟩)
          | (go_at_call 72; refine HC.out.mono ?_; rintro e w1 ⟨rfl, hb1⟩; have HB1 := Lib.hid hb1; clear hb1))
        go_ret
        exact ⟨by rw [HF.out]; rfl, HB0.out.trans (HB1.out.mono HB0.out.size)⟩
  | true =>
    have hE' : t.s.data.toList.isEmpty = true := by rw [← ByteArray.toList_eq]; exact hE
    cases hN : (t.n == 0) with
    | false =>
      have HF : Hid (exprB (h + 1) t = false) := Lib.hid (by rw [HFORM.out, hE', hN]; rfl)
      go_enter Tryd.func48, Tryd.ntmps48
      go_wp2_with (first
        | (go_at_call 41; refine (risName_calls _ _ HS.out).mono ?_; rintro e w' ⟨rfl, rfl⟩)
        | (go_at_call 40; refine (risWord_calls _ _).mono ?_; rintro e w' ⟨rfl, rfl⟩))
      go_ret
      exact ⟨by rw [HF.out]; rfl, HB0.out⟩
    | true =>
      have HF : Hid (exprB (h + 1) t = funB h t.l) := Lib.hid (by rw [HFORM.out, hE', hN]; rfl)
      go_enter Tryd.func48, Tryd.ntmps48
      go_wp2_with (first
        | (go_at_call 41; refine (risName_calls _ _ HS.out).mono ?_; rintro e w' ⟨rfl, rfl⟩)
        | (go_at_call 40; refine (risWord_calls _ _).mono ?_; rintro e w' ⟨rfl, rfl⟩)
        | (go_at_call 72; refine HC.out.mono ?_; rintro e w1 ⟨rfl, hb1⟩; have HB1 := Lib.hid hb1; clear hb1))
      go_ret
      exact ⟨by rw [HF.out]; rfl, HB0.out.trans (HB1.out.mono HB0.out.size)⟩

set_option maxRecDepth 100000 in
set_option maxHeartbeats 4000000 in
theorem rexpr_14 (h : Nat) (hh : h ≤ 200) (ia : AllR h) (d : Nat) (w : World) (t : Tree) (sl : Value) (hk : Kids w d t.l sl) (hok : t.ok) (hct : t.count ≤ 1073741824) (hop : t.op = 14) :
    Calls Tryd.prog 48 #[.agg #[.int .i64 t.op, .string t.s, .int .i64 t.n, sl, .int .i64 t.line], .int .i64 ((h + 1 : Nat) : Int)] w fun e w' => e = .returned (.bool (exprB (h + 1) t)) ∧ Below w.heap.size w w' := by
  obtain ⟨hlen, A, c, rfl⟩ := hk.form
  unfold maxLen at hlen
  have HFORM := Lib.hid (form_14 h t hop)
  rw [hop]
  obtain ⟨w0, hw0⟩ : ∃ w0, w.alloc (.cells #[.int .i64 14, .string t.s, .int .i64 t.n, .slice A t.l.length c, .int .i64 t.line] 24) = w0 := ⟨_, rfl⟩
  have bx : Blk5 w0 w.heap.size 14 t.s t.n (.slice A t.l.length c) t.line := by rw [← hw0]; exact blk5_new _ _ _ _ _ _
  have hb0 : Below w.heap.size w w0 := by rw [← hw0]; exact (Below.refl _ _).alloc (Nat.le_refl _) _
  have HB0 := Lib.hid hb0
  have HS := Lib.hid hok.1
  have hct' : counts t.l ≤ 1073741824 := by rw [count_eq] at hct; omega
  have HC := Lib.hid (ia d w0 t.l _ (hk.below hb0) hct')
  have HX := Lib.hid bx
  obtain ⟨c0, c1, c2, c3, c4⟩ := bx
  clear hb0 hk hok hct hct' hop ia
  obtain ⟨H, hH⟩ : ∃ H : Int, ((h + 1 : Nat) : Int) = H := ⟨_, rfl⟩
  rw [hH]
  have hH0 : decide (H < 1) = false := by simp; omega
  have hH1 : H - 1 = (h : Int) := by omega
  have hH2 : 0 ≤ H := by omega
  have hH3 : H ≤ 201 := by omega
  clear hH
  cases hE : t.s.toList.isEmpty with
  | false =>
    have hE' : t.s.data.toList.isEmpty = false := by rw [← ByteArray.toList_eq]; exact hE
    have HF : Hid (exprB (h + 1) t = false) := Lib.hid (by rw [HFORM.out, hE']; rfl)
    go_enter Tryd.func48, Tryd.ntmps48
    go_wp2_with (first
      | (go_at_call 41; refine (risName_calls _ _ HS.out).mono ?_; rintro e w' ⟨rfl, rfl⟩)
      | (go_at_call 40; refine (risWord_calls _ _).mono ?_; rintro e w' ⟨rfl, rfl⟩))
    go_ret
    exact ⟨by rw [HF.out]; rfl, HB0.out⟩
  | true =>
    have hE' : t.s.data.toList.isEmpty = true := by rw [← ByteArray.toList_eq]; exact hE
    cases hN : (t.n == 0) with
    | false =>
      have HF : Hid (exprB (h + 1) t = false) := Lib.hid (by rw [HFORM.out, hE', hN]; rfl)
      go_enter Tryd.func48, Tryd.ntmps48
      go_wp2_with (first
        | (go_at_call 41; refine (risName_calls _ _ HS.out).mono ?_; rintro e w' ⟨rfl, rfl⟩)
        | (go_at_call 40; refine (risWord_calls _ _).mono ?_; rintro e w' ⟨rfl, rfl⟩))
      go_ret
      exact ⟨by rw [HF.out]; rfl, HB0.out⟩
    | true =>
      cases hL2 : ((t.l.length : Int) == 2) with
      | false =>
        have HF : Hid (exprB (h + 1) t = false) := Lib.hid (by rw [HFORM.out, hE', hN, hL2]; rfl)
        go_enter Tryd.func48, Tryd.ntmps48
        go_wp2_with (first
          | (go_at_call 41; refine (risName_calls _ _ HS.out).mono ?_; rintro e w' ⟨rfl, rfl⟩)
          | (go_at_call 40; refine (risWord_calls _ _).mono ?_; rintro e w' ⟨rfl, rfl⟩))
        go_ret
        exact ⟨by rw [HF.out]; rfl, HB0.out⟩
      | true =>
        have HF : Hid (exprB (h + 1) t = allB h t.l) := Lib.hid (by rw [HFORM.out, hE', hN, hL2]; rfl)
        go_enter Tryd.func48, Tryd.ntmps48
        go_wp2_with (first
          | (go_at_call 41; refine (risName_calls _ _ HS.out).mono ?_; rintro e w' ⟨rfl, rfl⟩)
          | (go_at_call 40; refine (risWord_calls _ _).mono ?_; rintro e w' ⟨rfl, rfl⟩)
          | (go_at_call 73; refine HC.out.mono ?_; rintro e w1 ⟨rfl, hb1⟩; have HB1 := Lib.hid hb1; clear hb1))
        go_ret
        exact ⟨by rw [HF.out]; rfl, HB0.out.trans (HB1.out.mono HB0.out.size)⟩

set_option maxRecDepth 100000 in
set_option maxHeartbeats 4000000 in
theorem rexpr_21 (h : Nat) (hh : h ≤ 200) (ia : AllR h) (d : Nat) (w : World) (t : Tree) (sl : Value) (hk : Kids w d t.l sl) (hok : t.ok) (hct : t.count ≤ 1073741824) (hop : t.op = 21) :
    Calls Tryd.prog 48 #[.agg #[.int .i64 t.op, .string t.s, .int .i64 t.n, sl, .int .i64 t.line], .int .i64 ((h + 1 : Nat) : Int)] w fun e w' => e = .returned (.bool (exprB (h + 1) t)) ∧ Below w.heap.size w w' := by
  obtain ⟨hlen, A, c, rfl⟩ := hk.form
  unfold maxLen at hlen
  have HFORM := Lib.hid (form_21 h t hop)
  rw [hop]
  obtain ⟨w0, hw0⟩ : ∃ w0, w.alloc (.cells #[.int .i64 21, .string t.s, .int .i64 t.n, .slice A t.l.length c, .int .i64 t.line] 24) = w0 := ⟨_, rfl⟩
  have bx : Blk5 w0 w.heap.size 21 t.s t.n (.slice A t.l.length c) t.line := by rw [← hw0]; exact blk5_new _ _ _ _ _ _
  have hb0 : Below w.heap.size w w0 := by rw [← hw0]; exact (Below.refl _ _).alloc (Nat.le_refl _) _
  have HB0 := Lib.hid hb0
  have HS := Lib.hid hok.1
  have hct' : counts t.l ≤ 1073741824 := by rw [count_eq] at hct; omega
  have HC := Lib.hid (ia d w0 t.l _ (hk.below hb0) hct')
  have HX := Lib.hid bx
  obtain ⟨c0, c1, c2, c3, c4⟩ := bx
  clear hb0 hk hok hct hct' hop ia
  obtain ⟨H, hH⟩ : ∃ H : Int, ((h + 1 : Nat) : Int) = H := ⟨_, rfl⟩
  rw [hH]
  have hH0 : decide (H < 1) = false := by simp; omega
  have hH1 : H - 1 = (h : Int) := by omega
  have hH2 : 0 ≤ H := by omega
  have hH3 : H ≤ 201 := by omega
  clear hH
  cases hE : t.s.toList.isEmpty with
  | false =>
    have hE' : t.s.data.toList.isEmpty = false := by rw [← ByteArray.toList_eq]; exact hE
    have HF : Hid (exprB (h + 1) t = false) := Lib.hid (by rw [HFORM.out, hE']; rfl)
    go_enter Tryd.func48, Tryd.ntmps48
    go_wp2_with (first
      | (go_at_call 41; refine (risName_calls _ _ HS.out).mono ?_; rintro e w' ⟨rfl, rfl⟩)
      | (go_at_call 40; refine (risWord_calls _ _).mono ?_; rintro e w' ⟨rfl, rfl⟩))
    go_ret
    exact ⟨by rw [HF.out]; rfl, HB0.out⟩
  | true =>
    have hE' : t.s.data.toList.isEmpty = true := by rw [← ByteArray.toList_eq]; exact hE
    cases hN : (t.n == 0) with
    | false =>
      have HF : Hid (exprB (h + 1) t = false) := Lib.hid (by rw [HFORM.out, hE', hN]; rfl)
      go_enter Tryd.func48, Tryd.ntmps48
      go_wp2_with (first
        | (go_at_call 41; refine (risName_calls _ _ HS.out).mono ?_; rintro e w' ⟨rfl, rfl⟩)
        | (go_at_call 40; refine (risWord_calls _ _).mono ?_; rintro e w' ⟨rfl, rfl⟩))
      go_ret
      exact ⟨by rw [HF.out]; rfl, HB0.out⟩
    | true =>
      cases hL2 : ((t.l.length : Int) == 2) with
      | false =>
        have HF : Hid (exprB (h + 1) t = false) := Lib.hid (by rw [HFORM.out, hE', hN, hL2]; rfl)
        go_enter Tryd.func48, Tryd.ntmps48
        go_wp2_with (first
          | (go_at_call 41; refine (risName_calls _ _ HS.out).mono ?_; rintro e w' ⟨rfl, rfl⟩)
          | (go_at_call 40; refine (risWord_calls _ _).mono ?_; rintro e w' ⟨rfl, rfl⟩))
        go_ret
        exact ⟨by rw [HF.out]; rfl, HB0.out⟩
      | true =>
        have HF : Hid (exprB (h + 1) t = allB h t.l) := Lib.hid (by rw [HFORM.out, hE', hN, hL2]; rfl)
        go_enter Tryd.func48, Tryd.ntmps48
        go_wp2_with (first
          | (go_at_call 41; refine (risName_calls _ _ HS.out).mono ?_; rintro e w' ⟨rfl, rfl⟩)
          | (go_at_call 40; refine (risWord_calls _ _).mono ?_; rintro e w' ⟨rfl, rfl⟩)
          | (go_at_call 73; refine HC.out.mono ?_; rintro e w1 ⟨rfl, hb1⟩; have HB1 := Lib.hid hb1; clear hb1))
        go_ret
        exact ⟨by rw [HF.out]; rfl, HB0.out.trans (HB1.out.mono HB0.out.size)⟩

set_option maxRecDepth 100000 in
set_option maxHeartbeats 4000000 in
theorem rexpr_22 (h : Nat) (hh : h ≤ 200) (ia : AllR h) (d : Nat) (w : World) (t : Tree) (sl : Value) (hk : Kids w d t.l sl) (hok : t.ok) (hct : t.count ≤ 1073741824) (hop : t.op = 22) :
    Calls Tryd.prog 48 #[.agg #[.int .i64 t.op, .string t.s, .int .i64 t.n, sl, .int .i64 t.line], .int .i64 ((h + 1 : Nat) : Int)] w fun e w' => e = .returned (.bool (exprB (h + 1) t)) ∧ Below w.heap.size w w' := by
  obtain ⟨hlen, A, c, rfl⟩ := hk.form
  unfold maxLen at hlen
  have HFORM := Lib.hid (form_22 h t hop)
  rw [hop]
  obtain ⟨w0, hw0⟩ : ∃ w0, w.alloc (.cells #[.int .i64 22, .string t.s, .int .i64 t.n, .slice A t.l.length c, .int .i64 t.line] 24) = w0 := ⟨_, rfl⟩
  have bx : Blk5 w0 w.heap.size 22 t.s t.n (.slice A t.l.length c) t.line := by rw [← hw0]; exact blk5_new _ _ _ _ _ _
  have hb0 : Below w.heap.size w w0 := by rw [← hw0]; exact (Below.refl _ _).alloc (Nat.le_refl _) _
  have HB0 := Lib.hid hb0
  have HS := Lib.hid hok.1
  have hct' : counts t.l ≤ 1073741824 := by rw [count_eq] at hct; omega
  have HC := Lib.hid (ia d w0 t.l _ (hk.below hb0) hct')
  have HX := Lib.hid bx
  obtain ⟨c0, c1, c2, c3, c4⟩ := bx
  clear hb0 hk hok hct hct' hop ia
  obtain ⟨H, hH⟩ : ∃ H : Int, ((h + 1 : Nat) : Int) = H := ⟨_, rfl⟩
  rw [hH]
  have hH0 : decide (H < 1) = false := by simp; omega
  have hH1 : H - 1 = (h : Int) := by omega
  have hH2 : 0 ≤ H := by omega
  have hH3 : H ≤ 201 := by omega
  clear hH
  cases hE : t.s.toList.isEmpty with
  | false =>
    have hE' : t.s.data.toList.isEmpty = false := by rw [← ByteArray.toList_eq]; exact hE
    have HF : Hid (exprB (h + 1) t = false) := Lib.hid (by rw [HFORM.out, hE']; rfl)
    go_enter Tryd.func48, Tryd.ntmps48
    go_wp2_with (first
      | (go_at_call 41; refine (risName_calls _ _ HS.out).mono ?_; rintro e w' ⟨rfl, rfl⟩)
      | (go_at_call 40; refine (risWord_calls _ _).mono ?_; rintro e w' ⟨rfl, rfl⟩))
    go_ret
    exact ⟨by rw [HF.out]; rfl, HB0.out⟩
  | true =>
    have hE' : t.s.data.toList.isEmpty = true := by rw [← ByteArray.toList_eq]; exact hE
    cases hN : (t.n == 0) with
    | false =>
      have HF : Hid (exprB (h + 1) t = false) := Lib.hid (by rw [HFORM.out, hE', hN]; rfl)
      go_enter Tryd.func48, Tryd.ntmps48
      go_wp2_with (first
        | (go_at_call 41; refine (risName_calls _ _ HS.out).mono ?_; rintro e w' ⟨rfl, rfl⟩)
        | (go_at_call 40; refine (risWord_calls _ _).mono ?_; rintro e w' ⟨rfl, rfl⟩))
      go_ret
      exact ⟨by rw [HF.out]; rfl, HB0.out⟩
    | true =>
      cases hL2 : ((t.l.length : Int) == 2) with
      | false =>
        have HF : Hid (exprB (h + 1) t = false) := Lib.hid (by rw [HFORM.out, hE', hN, hL2]; rfl)
        go_enter Tryd.func48, Tryd.ntmps48
        go_wp2_with (first
          | (go_at_call 41; refine (risName_calls _ _ HS.out).mono ?_; rintro e w' ⟨rfl, rfl⟩)
          | (go_at_call 40; refine (risWord_calls _ _).mono ?_; rintro e w' ⟨rfl, rfl⟩))
        go_ret
        exact ⟨by rw [HF.out]; rfl, HB0.out⟩
      | true =>
        have HF : Hid (exprB (h + 1) t = allB h t.l) := Lib.hid (by rw [HFORM.out, hE', hN, hL2]; rfl)
        go_enter Tryd.func48, Tryd.ntmps48
        go_wp2_with (first
          | (go_at_call 41; refine (risName_calls _ _ HS.out).mono ?_; rintro e w' ⟨rfl, rfl⟩)
          | (go_at_call 40; refine (risWord_calls _ _).mono ?_; rintro e w' ⟨rfl, rfl⟩)
          | (go_at_call 73; refine HC.out.mono ?_; rintro e w1 ⟨rfl, hb1⟩; have HB1 := Lib.hid hb1; clear hb1))
        go_ret
        exact ⟨by rw [HF.out]; rfl, HB0.out.trans (HB1.out.mono HB0.out.size)⟩

end Go.Proofs.YtcidccifnaecaaaDoor

