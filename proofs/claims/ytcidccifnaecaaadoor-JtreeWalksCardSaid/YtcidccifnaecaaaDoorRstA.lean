/- The document's stmt, kind by kind, walked. -/
import Derived.Test.YtcidccifnaecaaaDoorRall
namespace Go.Proofs.YtcidccifnaecaaaDoor
open Go.RowKit

set_option maxRecDepth 100000 in
set_option maxHeartbeats 4000000 in
theorem rstmt_30 (h : Nat) (hh : h ≤ 200) (ia : AllR h) (d : Nat) (w : World) (t : Tree) (sl : Value) (hk : Kids w d t.l sl) (hok : t.ok) (hct : t.count ≤ 1073741824) (hop : t.op = 30) :
    Calls Tryd.prog 71 #[.agg #[.int .i64 t.op, .string t.s, .int .i64 t.n, sl, .int .i64 t.line], .int .i64 ((h + 1 : Nat) : Int)] w fun e w' => e = .returned (.bool (stmtB (h + 1) t)) ∧ Below w.heap.size w w' := by
  obtain ⟨hlen, A, c, rfl⟩ := hk.form
  unfold maxLen at hlen
  have HFORM := Lib.hid (form_30 h t hop)
  rw [hop]
  obtain ⟨w0, hw0⟩ : ∃ w0, w.alloc (.cells #[.int .i64 30, .string t.s, .int .i64 t.n, .slice A t.l.length c, .int .i64 t.line] 24) = w0 := ⟨_, rfl⟩
  have bx : Blk5 w0 w.heap.size 30 t.s t.n (.slice A t.l.length c) t.line := by rw [← hw0]; exact blk5_new _ _ _ _ _ _
  have hb0 : Below w.heap.size w w0 := by rw [← hw0]; exact (Below.refl _ _).alloc (Nat.le_refl _) _
  have HB0 := Lib.hid hb0
  have HS := Lib.hid hok.1
  have hct' : counts t.l ≤ 1073741824 := by rw [count_eq] at hct; omega
  have HC := Lib.hid (ia d w0 t.l _ (hk.below hb0) hct')
  have HX := Lib.hid bx
  obtain ⟨c0, c1, c2, c3, c4⟩ := bx
  clear hb0 hk hok hct hct' hop ia
  obtain ⟨H, hH⟩ : ∃ H : Int, ((h + 1 : Nat) : Int) = H := ⟨_, rfl⟩
  rw [hH]
  have hH0 : decide (H < 1) = false := by simp; omega
  have hH1 : H - 1 = (h : Int) := by omega
  have hH2 : 0 ≤ H := by omega
  have hH3 : H ≤ 201 := by omega
  clear hH
  cases hNn : (t.n == 0) with
  | false =>
    have hnb : (t.n != 0) = true := by rw [bne, hNn]; rfl
    have HF : Hid (stmtB (h + 1) t = false) := Lib.hid (by rw [HFORM.out, hNn]; rfl)
    go_enter Tryd.func71, Tryd.ntmps71
    go_wp2_with (first
      | (go_at_call 41; refine (risName_calls _ _ HS.out).mono ?_; rintro e w' ⟨rfl, rfl⟩))
    go_ret
    exact ⟨by rw [HF.out]; rfl, HB0.out⟩
  | true =>
  have hnb : (t.n != 0) = false := by rw [bne, hNn]; rfl
  cases hNM : nameB t.s.data.toList with
  | false =>
    have HF : Hid (stmtB (h + 1) t = false) := Lib.hid (by rw [HFORM.out, hNn, hNM]; rfl)
    go_enter Tryd.func71, Tryd.ntmps71
    go_wp2_with (first
      | (go_at_call 41; refine (risName_calls _ _ HS.out).mono ?_; rintro e w' ⟨rfl, rfl⟩))
    go_ret
    exact ⟨by rw [HF.out]; rfl, HB0.out⟩
  | true =>
  cases hLE1 : decide ((t.l.length : Int) ≤ 1) with
  | false =>
    have HF : Hid (stmtB (h + 1) t = false) := Lib.hid (by rw [HFORM.out, hNn, hNM, hLE1]; rfl)
    go_enter Tryd.func71, Tryd.ntmps71
    go_wp2_with (first
      | (go_at_call 41; refine (risName_calls _ _ HS.out).mono ?_; rintro e w' ⟨rfl, rfl⟩))
    go_ret
    exact ⟨by rw [HF.out]; rfl, HB0.out⟩
  | true =>
  have HF : Hid (stmtB (h + 1) t = allB h t.l) := Lib.hid (by rw [HFORM.out, hNn, hNM, hLE1]; rfl)
  go_enter Tryd.func71, Tryd.ntmps71
  go_wp2_with (first
    | (go_at_call 41; refine (risName_calls _ _ HS.out).mono ?_; rintro e w' ⟨rfl, rfl⟩)
    | (go_at_call 73; refine HC.out.mono ?_; rintro e w1 ⟨rfl, hb1⟩; have HB1 := Lib.hid hb1; clear hb1))
  go_ret
  exact ⟨by rw [HF.out]; rfl, HB0.out.trans (HB1.out.mono HB0.out.size)⟩

set_option maxRecDepth 100000 in
set_option maxHeartbeats 4000000 in
theorem rstmt_31 (h : Nat) (hh : h ≤ 200) (ia : AllR h) (d : Nat) (w : World) (t : Tree) (sl : Value) (hk : Kids w d t.l sl) (hok : t.ok) (hct : t.count ≤ 1073741824) (hop : t.op = 31) :
    Calls Tryd.prog 71 #[.agg #[.int .i64 t.op, .string t.s, .int .i64 t.n, sl, .int .i64 t.line], .int .i64 ((h + 1 : Nat) : Int)] w fun e w' => e = .returned (.bool (stmtB (h + 1) t)) ∧ Below w.heap.size w w' := by
  obtain ⟨hlen, A, c, rfl⟩ := hk.form
  unfold maxLen at hlen
  have HFORM := Lib.hid (form_31 h t hop)
  rw [hop]
  obtain ⟨w0, hw0⟩ : ∃ w0, w.alloc (.cells #[.int .i64 31, .string t.s, .int .i64 t.n, .slice A t.l.length c, .int .i64 t.line] 24) = w0 := ⟨_, rfl⟩
  have bx : Blk5 w0 w.heap.size 31 t.s t.n (.slice A t.l.length c) t.line := by rw [← hw0]; exact blk5_new _ _ _ _ _ _
  have hb0 : Below w.heap.size w w0 := by rw [← hw0]; exact (Below.refl _ _).alloc (Nat.le_refl _) _
  have HB0 := Lib.hid hb0
  have HS := Lib.hid hok.1
  have hct' : counts t.l ≤ 1073741824 := by rw [count_eq] at hct; omega
  have HC := Lib.hid (ia d w0 t.l _ (hk.below hb0) hct')
  have HX := Lib.hid bx
  obtain ⟨c0, c1, c2, c3, c4⟩ := bx
  clear hb0 hk hok hct hct' hop ia
  obtain ⟨H, hH⟩ : ∃ H : Int, ((h + 1 : Nat) : Int) = H := ⟨_, rfl⟩
  rw [hH]
  have hH0 : decide (H < 1) = false := by simp; omega
  have hH1 : H - 1 = (h : Int) := by omega
  have hH2 : 0 ≤ H := by omega
  have hH3 : H ≤ 201 := by omega
  clear hH
  cases hNn : (t.n == 0) with
  | false =>
    have hnb : (t.n != 0) = true := by rw [bne, hNn]; rfl
    have HF : Hid (stmtB (h + 1) t = false) := Lib.hid (by rw [HFORM.out, hNn]; rfl)
    go_enter Tryd.func71, Tryd.ntmps71
    go_wp2_with (first
      | (go_at_call 41; refine (risName_calls _ _ HS.out).mono ?_; rintro e w' ⟨rfl, rfl⟩))
    go_ret
    exact ⟨by rw [HF.out]; rfl, HB0.out⟩
  | true =>
  have hnb : (t.n != 0) = false := by rw [bne, hNn]; rfl
  cases hE : t.s.toList.isEmpty with
  | false =>
    have hE' : t.s.data.toList.isEmpty = false := by rw [← ByteArray.toList_eq]; exact hE
    have HF : Hid (stmtB (h + 1) t = false) := Lib.hid (by rw [HFORM.out, hNn, hE']; rfl)
    go_enter Tryd.func71, Tryd.ntmps71
    go_wp2_with (first
      | (go_at_call 41; refine (risName_calls _ _ HS.out).mono ?_; rintro e w' ⟨rfl, rfl⟩))
    go_ret
    exact ⟨by rw [HF.out]; rfl, HB0.out⟩
  | true =>
  have hE' : t.s.data.toList.isEmpty = true := by rw [← ByteArray.toList_eq]; exact hE
  cases hL1 : ((t.l.length : Int) == 1) with
  | false =>
    have HF : Hid (stmtB (h + 1) t = false) := Lib.hid (by rw [HFORM.out, hNn, hE', hL1]; rfl)
    go_enter Tryd.func71, Tryd.ntmps71
    go_wp2_with (first
      | (go_at_call 41; refine (risName_calls _ _ HS.out).mono ?_; rintro e w' ⟨rfl, rfl⟩))
    go_ret
    exact ⟨by rw [HF.out]; rfl, HB0.out⟩
  | true =>
  have HF : Hid (stmtB (h + 1) t = allB h t.l) := Lib.hid (by rw [HFORM.out, hNn, hE', hL1]; rfl)
  go_enter Tryd.func71, Tryd.ntmps71
  go_wp2_with (first
    | (go_at_call 41; refine (risName_calls _ _ HS.out).mono ?_; rintro e w' ⟨rfl, rfl⟩)
    | (go_at_call 73; refine HC.out.mono ?_; rintro e w1 ⟨rfl, hb1⟩; have HB1 := Lib.hid hb1; clear hb1))
  go_ret
  exact ⟨by rw [HF.out]; rfl, HB0.out.trans (HB1.out.mono HB0.out.size)⟩

set_option maxRecDepth 100000 in
set_option maxHeartbeats 4000000 in
theorem rstmt_36 (h : Nat) (hh : h ≤ 200) (ia : AllR h) (d : Nat) (w : World) (t : Tree) (sl : Value) (hk : Kids w d t.l sl) (hok : t.ok) (hct : t.count ≤ 1073741824) (hop : t.op = 36) :
    Calls Tryd.prog 71 #[.agg #[.int .i64 t.op, .string t.s, .int .i64 t.n, sl, .int .i64 t.line], .int .i64 ((h + 1 : Nat) : Int)] w fun e w' => e = .returned (.bool (stmtB (h + 1) t)) ∧ Below w.heap.size w w' := by
  obtain ⟨hlen, A, c, rfl⟩ := hk.form
  unfold maxLen at hlen
  have HFORM := Lib.hid (form_36 h t hop)
  rw [hop]
  obtain ⟨w0, hw0⟩ : ∃ w0, w.alloc (.cells #[.int .i64 36, .string t.s, .int .i64 t.n, .slice A t.l.length c, .int .i64 t.line] 24) = w0 := ⟨_, rfl⟩
  have bx : Blk5 w0 w.heap.size 36 t.s t.n (.slice A t.l.length c) t.line := by rw [← hw0]; exact blk5_new _ _ _ _ _ _
  have hb0 : Below w.heap.size w w0 := by rw [← hw0]; exact (Below.refl _ _).alloc (Nat.le_refl _) _
  have HB0 := Lib.hid hb0
  have HS := Lib.hid hok.1
  have hct' : counts t.l ≤ 1073741824 := by rw [count_eq] at hct; omega
  have HC := Lib.hid (ia d w0 t.l _ (hk.below hb0) hct')
  have HX := Lib.hid bx
  obtain ⟨c0, c1, c2, c3, c4⟩ := bx
  clear hb0 hk hok hct hct' hop ia
  obtain ⟨H, hH⟩ : ∃ H : Int, ((h + 1 : Nat) : Int) = H := ⟨_, rfl⟩
  rw [hH]
  have hH0 : decide (H < 1) = false := by simp; omega
  have hH1 : H - 1 = (h : Int) := by omega
  have hH2 : 0 ≤ H := by omega
  have hH3 : H ≤ 201 := by omega
  clear hH
  cases hNn : (t.n == 0) with
  | false =>
    have hnb : (t.n != 0) = true := by rw [bne, hNn]; rfl
    have HF : Hid (stmtB (h + 1) t = false) := Lib.hid (by rw [HFORM.out, hNn]; rfl)
    go_enter Tryd.func71, Tryd.ntmps71
    go_wp2_with (first
      | (go_at_call 41; refine (risName_calls _ _ HS.out).mono ?_; rintro e w' ⟨rfl, rfl⟩))
    go_ret
    exact ⟨by rw [HF.out]; rfl, HB0.out⟩
  | true =>
  have hnb : (t.n != 0) = false := by rw [bne, hNn]; rfl
  cases hE : t.s.toList.isEmpty with
  | false =>
    have hE' : t.s.data.toList.isEmpty = false := by rw [← ByteArray.toList_eq]; exact hE
    have HF : Hid (stmtB (h + 1) t = false) := Lib.hid (by rw [HFORM.out, hNn, hE']; rfl)
    go_enter Tryd.func71, Tryd.ntmps71
    go_wp2_with (first
      | (go_at_call 41; refine (risName_calls _ _ HS.out).mono ?_; rintro e w' ⟨rfl, rfl⟩))
    go_ret
    exact ⟨by rw [HF.out]; rfl, HB0.out⟩
  | true =>
  have hE' : t.s.data.toList.isEmpty = true := by rw [← ByteArray.toList_eq]; exact hE
  cases hLE1 : decide ((t.l.length : Int) ≤ 1) with
  | false =>
    have HF : Hid (stmtB (h + 1) t = false) := Lib.hid (by rw [HFORM.out, hNn, hE', hLE1]; rfl)
    go_enter Tryd.func71, Tryd.ntmps71
    go_wp2_with (first
      | (go_at_call 41; refine (risName_calls _ _ HS.out).mono ?_; rintro e w' ⟨rfl, rfl⟩))
    go_ret
    exact ⟨by rw [HF.out]; rfl, HB0.out⟩
  | true =>
  have HF : Hid (stmtB (h + 1) t = allB h t.l) := Lib.hid (by rw [HFORM.out, hNn, hE', hLE1]; rfl)
  go_enter Tryd.func71, Tryd.ntmps71
  go_wp2_with (first
    | (go_at_call 41; refine (risName_calls _ _ HS.out).mono ?_; rintro e w' ⟨rfl, rfl⟩)
    | (go_at_call 73; refine HC.out.mono ?_; rintro e w1 ⟨rfl, hb1⟩; have HB1 := Lib.hid hb1; clear hb1))
  go_ret
  exact ⟨by rw [HF.out]; rfl, HB0.out.trans (HB1.out.mono HB0.out.size)⟩

set_option maxRecDepth 100000 in
set_option maxHeartbeats 4000000 in
theorem rstmt_39 (h : Nat) (hh : h ≤ 200) (d : Nat) (w : World) (t : Tree) (sl : Value) (hk : Kids w d t.l sl) (hok : t.ok) (hct : t.count ≤ 1073741824) (hop : t.op = 39) :
    Calls Tryd.prog 71 #[.agg #[.int .i64 t.op, .string t.s, .int .i64 t.n, sl, .int .i64 t.line], .int .i64 ((h + 1 : Nat) : Int)] w fun e w' => e = .returned (.bool (stmtB (h + 1) t)) ∧ Below w.heap.size w w' := by
  obtain ⟨hlen, A, c, rfl⟩ := hk.form
  unfold maxLen at hlen
  have HFORM := Lib.hid (form_39 h t hop)
  rw [hop]
  obtain ⟨w0, hw0⟩ : ∃ w0, w.alloc (.cells #[.int .i64 39, .string t.s, .int .i64 t.n, .slice A t.l.length c, .int .i64 t.line] 24) = w0 := ⟨_, rfl⟩
  have bx : Blk5 w0 w.heap.size 39 t.s t.n (.slice A t.l.length c) t.line := by rw [← hw0]; exact blk5_new _ _ _ _ _ _
  have hb0 : Below w.heap.size w w0 := by rw [← hw0]; exact (Below.refl _ _).alloc (Nat.le_refl _) _
  have HB0 := Lib.hid hb0
  have HS := Lib.hid hok.1
  have hct' : counts t.l ≤ 1073741824 := by rw [count_eq] at hct; omega
  have HX := Lib.hid bx
  obtain ⟨c0, c1, c2, c3, c4⟩ := bx
  clear hb0 hk hok hct hct' hop
  obtain ⟨H, hH⟩ : ∃ H : Int, ((h + 1 : Nat) : Int) = H := ⟨_, rfl⟩
  rw [hH]
  have hH0 : decide (H < 1) = false := by simp; omega
  have hH1 : H - 1 = (h : Int) := by omega
  have hH2 : 0 ≤ H := by omega
  have hH3 : H ≤ 201 := by omega
  clear hH
  cases hNn : (t.n == 0) with
  | false =>
    have hnb : (t.n != 0) = true := by rw [bne, hNn]; rfl
    have HF : Hid (stmtB (h + 1) t = false) := Lib.hid (by rw [HFORM.out, hNn]; rfl)
    go_enter Tryd.func71, Tryd.ntmps71
    go_wp2_with (first
      | (go_at_call 41; refine (risName_calls _ _ HS.out).mono ?_; rintro e w' ⟨rfl, rfl⟩))
    go_ret
    exact ⟨by rw [HF.out]; rfl, HB0.out⟩
  | true =>
  have hnb : (t.n != 0) = false := by rw [bne, hNn]; rfl
  cases hE : t.s.toList.isEmpty with
  | false =>
    have hE' : t.s.data.toList.isEmpty = false := by rw [← ByteArray.toList_eq]; exact hE
    have HF : Hid (stmtB (h + 1) t = false) := Lib.hid (by rw [HFORM.out, hNn, hE']; rfl)
    go_enter Tryd.func71, Tryd.ntmps71
    go_wp2_with (first
      | (go_at_call 41; refine (risName_calls _ _ HS.out).mono ?_; rintro e w' ⟨rfl, rfl⟩))
    go_ret
    exact ⟨by rw [HF.out]; rfl, HB0.out⟩
  | true =>
  have hE' : t.s.data.toList.isEmpty = true := by rw [← ByteArray.toList_eq]; exact hE
  cases hL0 : ((t.l.length : Int) == 0) with
  | false =>
    have HF : Hid (stmtB (h + 1) t = false) := Lib.hid (by rw [HFORM.out, hNn, hE', hL0]; rfl)
    go_enter Tryd.func71, Tryd.ntmps71
    go_wp2_with (first
      | (go_at_call 41; refine (risName_calls _ _ HS.out).mono ?_; rintro e w' ⟨rfl, rfl⟩))
    go_ret
    exact ⟨by rw [HF.out]; rfl, HB0.out⟩
  | true =>
  have HF : Hid (stmtB (h + 1) t = true) := Lib.hid (by rw [HFORM.out, hNn, hE', hL0]; rfl)
  go_enter Tryd.func71, Tryd.ntmps71
  go_wp2_with (first
    | (go_at_call 41; refine (risName_calls _ _ HS.out).mono ?_; rintro e w' ⟨rfl, rfl⟩))
  go_ret
  exact ⟨by rw [HF.out]; rfl, HB0.out⟩

set_option maxRecDepth 100000 in
set_option maxHeartbeats 4000000 in
theorem rstmt_41 (h : Nat) (hh : h ≤ 200) (if_ : FunR h) (d : Nat) (w : World) (t : Tree) (sl : Value) (hk : Kids w d t.l sl) (hok : t.ok) (hct : t.count ≤ 1073741824) (hop : t.op = 41) :
    Calls Tryd.prog 71 #[.agg #[.int .i64 t.op, .string t.s, .int .i64 t.n, sl, .int .i64 t.line], .int .i64 ((h + 1 : Nat) : Int)] w fun e w' => e = .returned (.bool (stmtB (h + 1) t)) ∧ Below w.heap.size w w' := by
  obtain ⟨hlen, A, c, rfl⟩ := hk.form
  unfold maxLen at hlen
  have HFORM := Lib.hid (form_41 h t hop)
  rw [hop]
  obtain ⟨w0, hw0⟩ : ∃ w0, w.alloc (.cells #[.int .i64 41, .string t.s, .int .i64 t.n, .slice A t.l.length c, .int .i64 t.line] 24) = w0 := ⟨_, rfl⟩
  have bx : Blk5 w0 w.heap.size 41 t.s t.n (.slice A t.l.length c) t.line := by rw [← hw0]; exact blk5_new _ _ _ _ _ _
  have hb0 : Below w.heap.size w w0 := by rw [← hw0]; exact (Below.refl _ _).alloc (Nat.le_refl _) _
  have HB0 := Lib.hid hb0
  have HS := Lib.hid hok.1
  have hct' : counts t.l ≤ 1073741824 := by rw [count_eq] at hct; omega
  have HC := Lib.hid (if_ d w0 t.l _ (hk.below hb0) hct')
  have HX := Lib.hid bx
  obtain ⟨c0, c1, c2, c3, c4⟩ := bx
  clear hb0 hk hok hct hct' hop if_
  obtain ⟨H, hH⟩ : ∃ H : Int, ((h + 1 : Nat) : Int) = H := ⟨_, rfl⟩
  rw [hH]
  have hH0 : decide (H < 1) = false := by simp; omega
  have hH1 : H - 1 = (h : Int) := by omega
  have hH2 : 0 ≤ H := by omega
  have hH3 : H ≤ 201 := by omega
  clear hH
  cases hNn : (t.n == 0) with
  | false =>
    have hnb : (t.n != 0) = true := by rw [bne, hNn]; rfl
    have HF : Hid (stmtB (h + 1) t = false) := Lib.hid (by rw [HFORM.out, hNn]; rfl)
    go_enter Tryd.func71, Tryd.ntmps71
    go_wp2_with (first
      | (go_at_call 41; refine (risName_calls _ _ HS.out).mono ?_; rintro e w' ⟨rfl, rfl⟩))
    go_ret
    exact ⟨by rw [HF.out]; rfl, HB0.out⟩
  | true =>
  have hnb : (t.n != 0) = false := by rw [bne, hNn]; rfl
  cases hNM : nameB t.s.data.toList with
  | false =>
    have HF : Hid (stmtB (h + 1) t = false) := Lib.hid (by rw [HFORM.out, hNn, hNM]; rfl)
    go_enter Tryd.func71, Tryd.ntmps71
    go_wp2_with (first
      | (go_at_call 41; refine (risName_calls _ _ HS.out).mono ?_; rintro e w' ⟨rfl, rfl⟩))
    go_ret
    exact ⟨by rw [HF.out]; rfl, HB0.out⟩
  | true =>
  have HF : Hid (stmtB (h + 1) t = funB h t.l) := Lib.hid (by rw [HFORM.out, hNn, hNM]; rfl)
  go_enter Tryd.func71, Tryd.ntmps71
  go_wp2_with (first
    | (go_at_call 41; refine (risName_calls _ _ HS.out).mono ?_; rintro e w' ⟨rfl, rfl⟩)
    | (go_at_call 72; refine HC.out.mono ?_; rintro e w1 ⟨rfl, hb1⟩; have HB1 := Lib.hid hb1; clear hb1))
  go_ret
  exact ⟨by rw [HF.out]; rfl, HB0.out.trans (HB1.out.mono HB0.out.size)⟩

end Go.Proofs.YtcidccifnaecaaaDoor
