/- The document's stmt, kind by kind: walked. -/
import Derived.Test.YtcidccifnaecaaaDoorRDa
namespace Go.Proofs.YtcidccifnaecaaaDoor
open Go.RowKit

set_option maxRecDepth 100000 in
set_option maxHeartbeats 4000000 in
theorem rstmt_30 (h : Nat) (hh : h ≤ 200) (ia : AllR h) (d : Nat) (w : World) (t : Tree) (sl : Value) (hk : Kids w d t.l sl) (hok : t.ok) (hct : t.count ≤ 1073741824) (hop : t.op = 30) :
    Calls Tryd.prog 71 #[.agg #[.int .i64 t.op, .string t.s, .int .i64 t.n, sl, .int .i64 t.line], .int .i64 ((h + 1 : Nat) : Int)] w fun e w' => e = .returned (.bool (stmtB (h + 1) t)) ∧ Below w.heap.size w w' := by
  obtain ⟨hlen, A, c, rfl⟩ := hk.form
  unfold maxLen at hlen
  have HFORM := Lib.hid (form_30 h t hop)
  rw [hop]
  obtain ⟨w0, hw0⟩ : ∃ w0, w.alloc (.cells #[.int .i64 30, .string t.s, .int .i64 t.n, .slice A t.l.length c, .int .i64 t.line] 24) = w0 := ⟨_, rfl⟩
  have bx : Blk5 w0 w.heap.size 30 t.s t.n (.slice A t.l.length c) t.line := by rw [← hw0]; exact blk5_new _ _ _ _ _ _
  have hb0 : Below w.heap.size w w0 := by rw [← hw0]; exact (Below.refl _ _).alloc (Nat.le_refl _) _
  have HB0 := Lib.hid hb0
  have HS := Lib.hid hok.1
  have hct' : counts t.l ≤ 1073741824 := by rw [count_eq] at hct; omega
  have HC := Lib.hid (ia d w0 t.l _ (hk.below hb0) hct')
  have HX := Lib.hid bx
  obtain ⟨c0, c1, c2, c3, c4⟩ := bx
  clear hb0 hk hok hct hct' hop ia
  obtain ⟨H, hH⟩ : ∃ H : Int, ((h + 1 : Nat) : Int) = H := ⟨_, rfl⟩
  rw [hH]
  have hH0 : decide (H < 1) = false := by simp; omega
  have hH1 : H - 1 = (h : Int) := by omega
  have hH2 : 0 ≤ H := by omega
  have hH3 : H ≤ 201 := by omega
  clear hH
  cases hNn : (t.n == 0) with
  | false =>
    have hnb : (t.n != 0) = true := by rw [bne, hNn]; rfl
    have HF : Hid (stmtB (h + 1) t = false) := Lib.hid (by rw [HFORM.out, hNn]; rfl)
    go_enter Tryd.func71, Tryd.ntmps71
    go_wp2_with (first
      | (go_at_call 41; refine (risName_calls _ _ HS.out).mono ?_; rintro e w' ⟨rfl, rfl⟩))
    go_ret
    exact ⟨by rw [HF.out]; rfl, HB0.out⟩
  | true =>
  have hnb : (t.n != 0) = false := by rw [bne, hNn]; rfl
  cases hNM : nameB t.s.data.toList with
  | false =>
    have HF : Hid (stmtB (h + 1) t = false) := Lib.hid (by rw [HFORM.out, hNn, hNM]; rfl)
    go_enter Tryd.func71, Tryd.ntmps71
    go_wp2_with (first
      | (go_at_call 41; refine (risName_calls _ _ HS.out).mono ?_; rintro e w' ⟨rfl, rfl⟩))
    go_ret
    exact ⟨by rw [HF.out]; rfl, HB0.out⟩
  | true =>
  cases hLE1 : decide ((t.l.length : Int) ≤ 1) with
  | false =>
    have HF : Hid (stmtB (h + 1) t = false) := Lib.hid (by rw [HFORM.out, hNn, hNM, hLE1]; rfl)
    go_enter Tryd.func71, Tryd.ntmps71
    go_wp2_with (first
      | (go_at_call 41; refine (risName_calls _ _ HS.out).mono ?_; rintro e w' ⟨rfl, rfl⟩))
    go_ret
    exact ⟨by rw [HF.out]; rfl, HB0.out⟩
  | true =>
  have HF : Hid (stmtB (h + 1) t = allB h t.l) := Lib.hid (by rw [HFORM.out, hNn, hNM, hLE1]; rfl)
  go_enter Tryd.func71, Tryd.ntmps71
  go_wp2_with (first
    | (go_at_call 41; refine (risName_calls _ _ HS.out).mono ?_; rintro e w' ⟨rfl, rfl⟩)
    | (go_at_call 73; refine HC.out.mono ?_; rintro e w1 ⟨rfl, hb1⟩; have HB1 := Lib.hid hb1; clear hb1))
  go_ret
  exact ⟨by rw [HF.out]; rfl, HB0.out.trans (HB1.out.mono HB0.out.size)⟩

set_option maxRecDepth 100000 in
set_option maxHeartbeats 4000000 in
theorem rstmt_31 (h : Nat) (hh : h ≤ 200) (ia : AllR h) (d : Nat) (w : World) (t : Tree) (sl : Value) (hk : Kids w d t.l sl) (hok : t.ok) (hct : t.count ≤ 1073741824) (hop : t.op = 31) :
    Calls Tryd.prog 71 #[.agg #[.int .i64 t.op, .string t.s, .int .i64 t.n, sl, .int .i64 t.line], .int .i64 ((h + 1 : Nat) : Int)] w fun e w' => e = .returned (.bool (stmtB (h + 1) t)) ∧ Below w.heap.size w w' := by
  obtain ⟨hlen, A, c, rfl⟩ := hk.form
  unfold maxLen at hlen
  have HFORM := Lib.hid (form_31 h t hop)
  rw [hop]
  obtain ⟨w0, hw0⟩ : ∃ w0, w.alloc (.cells #[.int .i64 31, .string t.s, .int .i64 t.n, .slice A t.l.length c, .int .i64 t.line] 24) = w0 := ⟨_, rfl⟩
  have bx : Blk5 w0 w.heap.size 31 t.s t.n (.slice A t.l.length c) t.line := by rw [← hw0]; exact blk5_new _ _ _ _ _ _
  have hb0 : Below w.heap.size w w0 := by rw [← hw0]; exact (Below.refl _ _).alloc (Nat.le_refl _) _
  have HB0 := Lib.hid hb0
  have HS := Lib.hid hok.1
  have hct' : counts t.l ≤ 1073741824 := by rw [count_eq] at hct; omega
  have HC := Lib.hid (ia d w0 t.l _ (hk.below hb0) hct')
  have HX := Lib.hid bx
  obtain ⟨c0, c1, c2, c3, c4⟩ := bx
  clear hb0 hk hok hct hct' hop ia
  obtain ⟨H, hH⟩ : ∃ H : Int, ((h + 1 : Nat) : Int) = H := ⟨_, rfl⟩
  rw [hH]
  have hH0 : decide (H < 1) = false := by simp; omega
  have hH1 : H - 1 = (h : Int) := by omega
  have hH2 : 0 ≤ H := by omega
  have hH3 : H ≤ 201 := by omega
  clear hH
  cases hNn : (t.n == 0) with
  | false =>
    have hnb : (t.n != 0) = true := by rw [bne, hNn]; rfl
    have HF : Hid (stmtB (h + 1) t = false) := Lib.hid (by rw [HFORM.out, hNn]; rfl)
    go_enter Tryd.func71, Tryd.ntmps71
    go_wp2_with (first
      | (go_at_call 41; refine (risName_calls _ _ HS.out).mono ?_; rintro e w' ⟨rfl, rfl⟩))
    go_ret
    exact ⟨by rw [HF.out]; rfl, HB0.out⟩
  | true =>
  have hnb : (t.n != 0) = false := by rw [bne, hNn]; rfl
  cases hE : t.s.toList.isEmpty with
  | false =>
    have hE' : t.s.data.toList.isEmpty = false := by rw [← ByteArray.toList_eq]; exact hE
    have HF : Hid (stmtB (h + 1) t = false) := Lib.hid (by rw [HFORM.out, hNn, hE']; rfl)
    go_enter Tryd.func71, Tryd.ntmps71
    go_wp2_with (first
      | (go_at_call 41; refine (risName_calls _ _ HS.out).mono ?_; rintro e w' ⟨rfl, rfl⟩))
    go_ret
    exact ⟨by rw [HF.out]; rfl, HB0.out⟩
  | true =>
  have hE' : t.s.data.toList.isEmpty = true := by rw [← ByteArray.toList_eq]; exact hE
  cases hL1 : ((t.l.length : Int) == 1) with
  | false =>
    have HF : Hid (stmtB (h + 1) t = false) := Lib.hid (by rw [HFORM.out, hNn, hE', hL1]; rfl)
    go_enter Tryd.func71, Tryd.ntmps71
    go_wp2_with (first
      | (go_at_call 41; refine (risName_calls _ _ HS.out).mono ?_; rintro e w' ⟨rfl, rfl⟩))
    go_ret
    exact ⟨by rw [HF.out]; rfl, HB0.out⟩
  | true =>
  have HF : Hid (stmtB (h + 1) t = allB h t.l) := Lib.hid (by rw [HFORM.out, hNn, hE', hL1]; rfl)
  go_enter Tryd.func71, Tryd.ntmps71
  go_wp2_with (first
    | (go_at_call 41; refine (risName_calls _ _ HS.out).mono ?_; rintro e w' ⟨rfl, rfl⟩)
    | (go_at_call 73; refine HC.out.mono ?_; rintro e w1 ⟨rfl, hb1⟩; have HB1 := Lib.hid hb1; clear hb1))
  go_ret
  exact ⟨by rw [HF.out]; rfl, HB0.out.trans (HB1.out.mono HB0.out.size)⟩

set_option maxRecDepth 100000 in
set_option maxHeartbeats 4000000 in
theorem rstmt_36 (h : Nat) (hh : h ≤ 200) (ia : AllR h) (d : Nat) (w : World) (t : Tree) (sl : Value) (hk : Kids w d t.l sl) (hok : t.ok) (hct : t.count ≤ 1073741824) (hop : t.op = 36) :
    Calls Tryd.prog 71 #[.agg #[.int .i64 t.op, .string t.s, .int .i64 t.n, sl, .int .i64 t.line], .int .i64 ((h + 1 : Nat) : Int)] w fun e w' => e = .returned (.bool (stmtB (h + 1) t)) ∧ Below w.heap.size w w' := by
  obtain ⟨hlen, A, c, rfl⟩ := hk.form
  unfold maxLen at hlen
  have HFORM := Lib.hid (form_36 h t hop)
  rw [hop]
  obtain ⟨w0, hw0⟩ : ∃ w0, w.alloc (.cells #[.int .i64 36, .string t.s, .int .i64 t.n, .slice A t.l.length c, .int .i64 t.line] 24) = w0 := ⟨_, rfl⟩
  have bx : Blk5 w0 w.heap.size 36 t.s t.n (.slice A t.l.length c) t.line := by rw [← hw0]; exact blk5_new _ _ _ _ _ _
  have hb0 : Below w.heap.size w w0 := by rw [← hw0]; exact (Below.refl _ _).alloc (Nat.le_refl _) _
  have HB0 := Lib.hid hb0
  have HS := Lib.hid hok.1
  have hct' : counts t.l ≤ 1073741824 := by rw [count_eq] at hct; omega
  have HC := Lib.hid (ia d w0 t.l _ (hk.below hb0) hct')
  have HX := Lib.hid bx
  obtain ⟨c0, c1, c2, c3, c4⟩ := bx
  clear hb0 hk hok hct hct' hop ia
  obtain ⟨H, hH⟩ : ∃ H : Int, ((h + 1 : Nat) : Int) = H := ⟨_, rfl⟩
  rw [hH]
  have hH0 : decide (H < 1) = false := by simp; omega
  have hH1 : H - 1 = (h : Int) := by omega
  have hH2 : 0 ≤ H := by omega
  have hH3 : H ≤ 201 := by omega
  clear hH
  cases hNn : (t.n == 0) with
  | false =>
    have hnb : (t.n != 0) = true := by rw [bne, hNn]; rfl
    have HF : Hid (stmtB (h + 1) t = false) := Lib.hid (by rw [HFORM.out, hNn]; rfl)
    go_enter Tryd.func71, Tryd.ntmps71
    go_wp2_with (first
      | (go_at_call 41; refine (risName_calls _ _ HS.out).mono ?_; rintro e w' ⟨rfl, rfl⟩))
    go_ret
    exact ⟨by rw [HF.out]; rfl, HB0.out⟩
  | true =>
  have hnb : (t.n != 0) = false := by rw [bne, hNn]; rfl
  cases hE : t.s.toList.isEmpty with
  | false =>
    have hE' : t.s.data.toList.isEmpty = false := by rw [← ByteArray.toList_eq]; exact hE
    have HF : Hid (stmtB (h + 1) t = false) := Lib.hid (by rw [HFORM.out, hNn, hE']; rfl)
    go_enter Tryd.func71, Tryd.ntmps71
    go_wp2_with (first
      | (go_at_call 41; refine (risName_calls _ _ HS.out).mono ?_; rintro e w' ⟨rfl, rfl⟩))
    go_ret
    exact ⟨by rw [HF.out]; rfl, HB0.out⟩
  | true =>
  have hE' : t.s.data.toList.isEmpty = true := by rw [← ByteArray.toList_eq]; exact hE
  cases hLE1 : decide ((t.l.length : Int) ≤ 1) with
  | false =>
    have HF : Hid (stmtB (h + 1) t = false) := Lib.hid (by rw [HFORM.out, hNn, hE', hLE1]; rfl)
    go_enter Tryd.func71, Tryd.ntmps71
    go_wp2_with (first
      | (go_at_call 41; refine (risName_calls _ _ HS.out).mono ?_; rintro e w' ⟨rfl, rfl⟩))
    go_ret
    exact ⟨by rw [HF.out]; rfl, HB0.out⟩
  | true =>
  have HF : Hid (stmtB (h + 1) t = allB h t.l) := Lib.hid (by rw [HFORM.out, hNn, hE', hLE1]; rfl)
  go_enter Tryd.func71, Tryd.ntmps71
  go_wp2_with (first
    | (go_at_call 41; refine (risName_calls _ _ HS.out).mono ?_; rintro e w' ⟨rfl, rfl⟩)
    | (go_at_call 73; refine HC.out.mono ?_; rintro e w1 ⟨rfl, hb1⟩; have HB1 := Lib.hid hb1; clear hb1))
  go_ret
  exact ⟨by rw [HF.out]; rfl, HB0.out.trans (HB1.out.mono HB0.out.size)⟩

set_option maxRecDepth 100000 in
set_option maxHeartbeats 4000000 in
theorem rstmt_39 (h : Nat) (hh : h ≤ 200) (d : Nat) (w : World) (t : Tree) (sl : Value) (hk : Kids w d t.l sl) (hok : t.ok) (hct : t.count ≤ 1073741824) (hop : t.op = 39) :
    Calls Tryd.prog 71 #[.agg #[.int .i64 t.op, .string t.s, .int .i64 t.n, sl, .int .i64 t.line], .int .i64 ((h + 1 : Nat) : Int)] w fun e w' => e = .returned (.bool (stmtB (h + 1) t)) ∧ Below w.heap.size w w' := by
  obtain ⟨hlen, A, c, rfl⟩ := hk.form
  unfold maxLen at hlen
  have HFORM := Lib.hid (form_39 h t hop)
  rw [hop]
  obtain ⟨w0, hw0⟩ : ∃ w0, w.alloc (.cells #[.int .i64 39, .string t.s, .int .i64 t.n, .slice A t.l.length c, .int .i64 t.line] 24) = w0 := ⟨_, rfl⟩
  have bx : Blk5 w0 w.heap.size 39 t.s t.n (.slice A t.l.length c) t.line := by rw [← hw0]; exact blk5_new _ _ _ _ _ _
  have hb0 : Below w.heap.size w w0 := by rw [← hw0]; exact (Below.refl _ _).alloc (Nat.le_refl _) _
  have HB0 := Lib.hid hb0
  have HS := Lib.hid hok.1
  have hct' : counts t.l ≤ 1073741824 := by rw [count_eq] at hct; omega
  have HX := Lib.hid bx
  obtain ⟨c0, c1, c2, c3, c4⟩ := bx
  clear hb0 hk hok hct hct' hop
  obtain ⟨H, hH⟩ : ∃ H : Int, ((h + 1 : Nat) : Int) = H := ⟨_, rfl⟩
  rw [hH]
  have hH0 : decide (H < 1) = false := by simp; omega
  have hH1 : H - 1 = (h : Int) := by omega
  have hH2 : 0 ≤ H := by omega
  have hH3 : H ≤ 201 := by omega
  clear hH
  cases hNn : (t.n == 0) with
  | false =>
    have hnb : (t.n != 0) = true := by rw [bne, hNn]; rfl
    have HF : Hid (stmtB (h + 1) t = false) := Lib.hid (by rw [HFORM.out, hNn]; rfl)
    go_enter Tryd.func71, Tryd.ntmps71
    go_wp2_with (first
      | (go_at_call 41; refine (risName_calls _ _ HS.out).mono ?_; rintro e w' ⟨rfl, rfl⟩))
    go_ret
    exact ⟨by rw [HF.out]; rfl, HB0.out⟩
  | true =>
  have hnb : (t.n != 0) = false := by rw [bne, hNn]; rfl
  cases hE : t.s.toList.isEmpty with
  | false =>
    have hE' : t.s.data.toList.isEmpty = false := by rw [← ByteArray.toList_eq]; exact hE
    have HF : Hid (stmtB (h + 1) t = false) := Lib.hid (by rw [HFORM.out, hNn, hE']; rfl)
    go_enter Tryd.func71, Tryd.ntmps71
    go_wp2_with (first
      | (go_at_call 41; refine (risName_calls _ _ HS.out).mono ?_; rintro e w' ⟨rfl, rfl⟩))
    go_ret
    exact ⟨by rw [HF.out]; rfl, HB0.out⟩
  | true =>
  have hE' : t.s.data.toList.isEmpty = true := by rw [← ByteArray.toList_eq]; exact hE
  cases hL0 : ((t.l.length : Int) == 0) with
  | false =>
    have HF : Hid (stmtB (h + 1) t = false) := Lib.hid (by rw [HFORM.out, hNn, hE', hL0]; rfl)
    go_enter Tryd.func71, Tryd.ntmps71
    go_wp2_with (first
      | (go_at_call 41; refine (risName_calls _ _ HS.out).mono ?_; rintro e w' ⟨rfl, rfl⟩))
    go_ret
    exact ⟨by rw [HF.out]; rfl, HB0.out⟩
  | true =>
  have HF : Hid (stmtB (h + 1) t = true) := Lib.hid (by rw [HFORM.out, hNn, hE', hL0]; rfl)
  go_enter Tryd.func71, Tryd.ntmps71
  go_wp2_with (first
    | (go_at_call 41; refine (risName_calls _ _ HS.out).mono ?_; rintro e w' ⟨rfl, rfl⟩))
  go_ret
  exact ⟨by rw [HF.out]; rfl, HB0.out⟩

set_option maxRecDepth 100000 in
set_option maxHeartbeats 4000000 in
theorem rstmt_41 (h : Nat) (hh : h ≤ 200) (if_ : FunR h) (d : Nat) (w : World) (t : Tree) (sl : Value) (hk : Kids w d t.l sl) (hok : t.ok) (hct : t.count ≤ 1073741824) (hop : t.op = 41) :
    Calls Tryd.prog 71 #[.agg #[.int .i64 t.op, .string t.s, .int .i64 t.n, sl, .int .i64 t.line], .int .i64 ((h + 1 : Nat) : Int)] w fun e w' => e = .returned (.bool (stmtB (h + 1) t)) ∧ Below w.heap.size w w' := by
  obtain ⟨hlen, A, c, rfl⟩ := hk.form
  unfold maxLen at hlen
  have HFORM := Lib.hid (form_41 h t hop)
  rw [hop]
  obtain ⟨w0, hw0⟩ : ∃ w0, w.alloc (.cells #[.int .i64 41, .string t.s, .int .i64 t.n, .slice A t.l.length c, .int .i64 t.line] 24) = w0 := ⟨_, rfl⟩
  have bx : Blk5 w0 w.heap.size 41 t.s t.n (.slice A t.l.length c) t.line := by rw [← hw0]; exact blk5_new _ _ _ _ _ _
  have hb0 : Below w.heap.size w w0 := by rw [← hw0]; exact (Below.refl _ _).alloc (Nat.le_refl _) _
  have HB0 := Lib.hid hb0
  have HS := Lib.hid hok.1
  have hct' : counts t.l ≤ 1073741824 := by rw [count_eq] at hct; omega
  have HC := Lib.hid (if_ d w0 t.l _ (hk.below hb0) hct')
  have HX := Lib.hid bx
  obtain ⟨c0, c1, c2, c3, c4⟩ := bx
  clear hb0 hk hok hct hct' hop if_
  obtain ⟨H, hH⟩ : ∃ H : Int, ((h + 1 : Nat) : Int) = H := ⟨_, rfl⟩
  rw [hH]
  have hH0 : decide (H < 1) = false := by simp; omega
  have hH1 : H - 1 = (h : Int) := by omega
  have hH2 : 0 ≤ H := by omega
  have hH3 : H ≤ 201 := by omega
  clear hH
  cases hNn : (t.n == 0) with
  | false =>
    have hnb : (t.n != 0) = true := by rw [bne, hNn]; rfl
    have HF : Hid (stmtB (h + 1) t = false) := Lib.hid (by rw [HFORM.out, hNn]; rfl)
    go_enter Tryd.func71, Tryd.ntmps71
    go_wp2_with (first
      | (go_at_call 41; refine (risName_calls _ _ HS.out).mono ?_; rintro e w' ⟨rfl, rfl⟩))
    go_ret
    exact ⟨by rw [HF.out]; rfl, HB0.out⟩
  | true =>
  have hnb : (t.n != 0) = false := by rw [bne, hNn]; rfl
  cases hNM : nameB t.s.data.toList with
  | false =>
    have HF : Hid (stmtB (h + 1) t = false) := Lib.hid (by rw [HFORM.out, hNn, hNM]; rfl)
    go_enter Tryd.func71, Tryd.ntmps71
    go_wp2_with (first
      | (go_at_call 41; refine (risName_calls _ _ HS.out).mono ?_; rintro e w' ⟨rfl, rfl⟩))
    go_ret
    exact ⟨by rw [HF.out]; rfl, HB0.out⟩
  | true =>
  have HF : Hid (stmtB (h + 1) t = funB h t.l) := Lib.hid (by rw [HFORM.out, hNn, hNM]; rfl)
  go_enter Tryd.func71, Tryd.ntmps71
  go_wp2_with (first
    | (go_at_call 41; refine (risName_calls _ _ HS.out).mono ?_; rintro e w' ⟨rfl, rfl⟩)
    | (go_at_call 72; refine HC.out.mono ?_; rintro e w1 ⟨rfl, hb1⟩; have HB1 := Lib.hid hb1; clear hb1))
  go_ret
  exact ⟨by rw [HF.out]; rfl, HB0.out.trans (HB1.out.mono HB0.out.size)⟩

end Go.Proofs.YtcidccifnaecaaaDoor

namespace Go.Proofs.YtcidccifnaecaaaDoor
open Go.RowKit

set_option maxRecDepth 100000 in
set_option maxHeartbeats 4000000 in
theorem rstmt_37 (h : Nat) (hh : h ≤ 200) (ia : AllR h) (d : Nat) (w : World) (t : Tree) (sl : Value) (hk : Kids w d t.l sl) (hok : t.ok) (hct : t.count ≤ 1073741824) (hop : t.op = 37) :
    Calls Tryd.prog 71 #[.agg #[.int .i64 t.op, .string t.s, .int .i64 t.n, sl, .int .i64 t.line], .int .i64 ((h + 1 : Nat) : Int)] w fun e w' => e = .returned (.bool (stmtB (h + 1) t)) ∧ Below w.heap.size w w' := by
  obtain ⟨hlen, A, c, rfl⟩ := hk.form
  unfold maxLen at hlen
  have HFORM := Lib.hid (form_37 h t hop)
  rw [hop]
  obtain ⟨w0, hw0⟩ : ∃ w0, w.alloc (.cells #[.int .i64 37, .string t.s, .int .i64 t.n, .slice A t.l.length c, .int .i64 t.line] 24) = w0 := ⟨_, rfl⟩
  have bx : Blk5 w0 w.heap.size 37 t.s t.n (.slice A t.l.length c) t.line := by rw [← hw0]; exact blk5_new _ _ _ _ _ _
  have hb0 : Below w.heap.size w w0 := by rw [← hw0]; exact (Below.refl _ _).alloc (Nat.le_refl _) _
  have HB0 := Lib.hid hb0
  have HS := Lib.hid hok.1
  have hct' : counts t.l ≤ 1073741824 := by rw [count_eq] at hct; omega
  have HC := Lib.hid (ia d w0 t.l _ (hk.below hb0) hct')
  have HX := Lib.hid bx
  obtain ⟨c0, c1, c2, c3, c4⟩ := bx
  clear hb0 hk hok hct hct' hop ia
  obtain ⟨H, hH⟩ : ∃ H : Int, ((h + 1 : Nat) : Int) = H := ⟨_, rfl⟩
  rw [hH]
  have hH0 : decide (H < 1) = false := by simp; omega
  have hH1 : H - 1 = (h : Int) := by omega
  have hH2 : 0 ≤ H := by omega
  have hH3 : H ≤ 201 := by omega
  clear hH
  cases hNn : (t.n == 0) with
  | false =>
    have hnb : (t.n != 0) = true := by rw [bne, hNn]; rfl
    have HF : Hid (stmtB (h + 1) t = false) := Lib.hid (by rw [HFORM.out, hNn]; rfl)
    go_enter Tryd.func71, Tryd.ntmps71
    go_wp2_with (first
      | (go_at_call 41; refine (risName_calls _ _ HS.out).mono ?_; rintro e w' ⟨rfl, rfl⟩))
    go_ret
    exact ⟨by rw [HF.out]; rfl, HB0.out⟩
  | true =>
  have hnb : (t.n != 0) = false := by rw [bne, hNn]; rfl
  cases hE : t.s.toList.isEmpty with
  | false =>
    have hE' : t.s.data.toList.isEmpty = false := by rw [← ByteArray.toList_eq]; exact hE
    have HF : Hid (stmtB (h + 1) t = false) := Lib.hid (by rw [HFORM.out, hNn, hE']; rfl)
    go_enter Tryd.func71, Tryd.ntmps71
    go_wp2_with (first
      | (go_at_call 41; refine (risName_calls _ _ HS.out).mono ?_; rintro e w' ⟨rfl, rfl⟩))
    go_ret
    exact ⟨by rw [HF.out]; rfl, HB0.out⟩
  | true =>
  have hE' : t.s.data.toList.isEmpty = true := by rw [← ByteArray.toList_eq]; exact hE
  cases hL1 : ((t.l.length : Int) == 1) with
  | false =>
    have HF : Hid (stmtB (h + 1) t = false) := Lib.hid (by rw [HFORM.out, hNn, hE', hL1]; rfl)
    go_enter Tryd.func71, Tryd.ntmps71
    go_wp2_with (first
      | (go_at_call 41; refine (risName_calls _ _ HS.out).mono ?_; rintro e w' ⟨rfl, rfl⟩))
    go_ret
    exact ⟨by rw [HF.out]; rfl, HB0.out⟩
  | true =>
  have HF : Hid (stmtB (h + 1) t = allB h t.l) := Lib.hid (by rw [HFORM.out, hNn, hE', hL1]; rfl)
  go_enter Tryd.func71, Tryd.ntmps71
  go_wp2_with (first
    | (go_at_call 41; refine (risName_calls _ _ HS.out).mono ?_; rintro e w' ⟨rfl, rfl⟩)
    | (go_at_call 73; refine HC.out.mono ?_; rintro e w1 ⟨rfl, hb1⟩; have HB1 := Lib.hid hb1; clear hb1))
  go_ret
  exact ⟨by rw [HF.out]; rfl, HB0.out.trans (HB1.out.mono HB0.out.size)⟩

set_option maxRecDepth 100000 in
set_option maxHeartbeats 4000000 in
theorem rstmt_40 (h : Nat) (hh : h ≤ 200) (d : Nat) (w : World) (t : Tree) (sl : Value) (hk : Kids w d t.l sl) (hok : t.ok) (hct : t.count ≤ 1073741824) (hop : t.op = 40) :
    Calls Tryd.prog 71 #[.agg #[.int .i64 t.op, .string t.s, .int .i64 t.n, sl, .int .i64 t.line], .int .i64 ((h + 1 : Nat) : Int)] w fun e w' => e = .returned (.bool (stmtB (h + 1) t)) ∧ Below w.heap.size w w' := by
  obtain ⟨hlen, A, c, rfl⟩ := hk.form
  unfold maxLen at hlen
  have HFORM := Lib.hid (form_40 h t hop)
  rw [hop]
  obtain ⟨w0, hw0⟩ : ∃ w0, w.alloc (.cells #[.int .i64 40, .string t.s, .int .i64 t.n, .slice A t.l.length c, .int .i64 t.line] 24) = w0 := ⟨_, rfl⟩
  have bx : Blk5 w0 w.heap.size 40 t.s t.n (.slice A t.l.length c) t.line := by rw [← hw0]; exact blk5_new _ _ _ _ _ _
  have hb0 : Below w.heap.size w w0 := by rw [← hw0]; exact (Below.refl _ _).alloc (Nat.le_refl _) _
  have HB0 := Lib.hid hb0
  have HS := Lib.hid hok.1
  have hct' : counts t.l ≤ 1073741824 := by rw [count_eq] at hct; omega
  have HX := Lib.hid bx
  obtain ⟨c0, c1, c2, c3, c4⟩ := bx
  clear hb0 hk hok hct hct' hop
  obtain ⟨H, hH⟩ : ∃ H : Int, ((h + 1 : Nat) : Int) = H := ⟨_, rfl⟩
  rw [hH]
  have hH0 : decide (H < 1) = false := by simp; omega
  have hH1 : H - 1 = (h : Int) := by omega
  have hH2 : 0 ≤ H := by omega
  have hH3 : H ≤ 201 := by omega
  clear hH
  cases hNn : (t.n == 0) with
  | false =>
    have hnb : (t.n != 0) = true := by rw [bne, hNn]; rfl
    have HF : Hid (stmtB (h + 1) t = false) := Lib.hid (by rw [HFORM.out, hNn]; rfl)
    go_enter Tryd.func71, Tryd.ntmps71
    go_wp2_with (first
      | (go_at_call 41; refine (risName_calls _ _ HS.out).mono ?_; rintro e w' ⟨rfl, rfl⟩))
    go_ret
    exact ⟨by rw [HF.out]; rfl, HB0.out⟩
  | true =>
  have hnb : (t.n != 0) = false := by rw [bne, hNn]; rfl
  cases hE : t.s.toList.isEmpty with
  | false =>
    have hE' : t.s.data.toList.isEmpty = false := by rw [← ByteArray.toList_eq]; exact hE
    have HF : Hid (stmtB (h + 1) t = false) := Lib.hid (by rw [HFORM.out, hNn, hE']; rfl)
    go_enter Tryd.func71, Tryd.ntmps71
    go_wp2_with (first
      | (go_at_call 41; refine (risName_calls _ _ HS.out).mono ?_; rintro e w' ⟨rfl, rfl⟩))
    go_ret
    exact ⟨by rw [HF.out]; rfl, HB0.out⟩
  | true =>
  have hE' : t.s.data.toList.isEmpty = true := by rw [← ByteArray.toList_eq]; exact hE
  cases hL0 : ((t.l.length : Int) == 0) with
  | false =>
    have HF : Hid (stmtB (h + 1) t = false) := Lib.hid (by rw [HFORM.out, hNn, hE', hL0]; rfl)
    go_enter Tryd.func71, Tryd.ntmps71
    go_wp2_with (first
      | (go_at_call 41; refine (risName_calls _ _ HS.out).mono ?_; rintro e w' ⟨rfl, rfl⟩))
    go_ret
    exact ⟨by rw [HF.out]; rfl, HB0.out⟩
  | true =>
  have HF : Hid (stmtB (h + 1) t = true) := Lib.hid (by rw [HFORM.out, hNn, hE', hL0]; rfl)
  go_enter Tryd.func71, Tryd.ntmps71
  go_wp2_with (first
    | (go_at_call 41; refine (risName_calls _ _ HS.out).mono ?_; rintro e w' ⟨rfl, rfl⟩))
  go_ret
  exact ⟨by rw [HF.out]; rfl, HB0.out⟩

set_option maxRecDepth 100000 in
set_option maxHeartbeats 4000000 in
theorem rstmt_32 (h : Nat) (hh : h ≤ 200) (is_ : StmtR h) (d : Nat) (w : World) (t : Tree) (sl : Value) (hk : Kids w d t.l sl) (hok : t.ok) (hct : t.count ≤ 1073741824) (hop : t.op = 32) :
    Calls Tryd.prog 71 #[.agg #[.int .i64 t.op, .string t.s, .int .i64 t.n, sl, .int .i64 t.line], .int .i64 ((h + 1 : Nat) : Int)] w fun e w' => e = .returned (.bool (stmtB (h + 1) t)) ∧ Below w.heap.size w w' := by
  obtain ⟨hlen, A, c, rfl⟩ := hk.form
  unfold maxLen at hlen
  have HFORM := Lib.hid (form_32 h t hop (by have := len_counts t.l; rw [count_eq] at hct; omega))
  rw [hop]
  obtain ⟨w0, hw0⟩ : ∃ w0, w.alloc (.cells #[.int .i64 32, .string t.s, .int .i64 t.n, .slice A t.l.length c, .int .i64 t.line] 24) = w0 := ⟨_, rfl⟩
  have bx : Blk5 w0 w.heap.size 32 t.s t.n (.slice A t.l.length c) t.line := by rw [← hw0]; exact blk5_new _ _ _ _ _ _
  have hb0 : Below w.heap.size w w0 := by rw [← hw0]; exact (Below.refl _ _).alloc (Nat.le_refl _) _
  have HB0 := Lib.hid hb0
  have HS := Lib.hid hok.1
  have hct' : counts t.l ≤ 1073741824 := by rw [count_eq] at hct; omega
  have HK := Lib.hid (hk.below hb0)
  have HCT := Lib.hid hct'
  have IS := Lib.hid is_
  have HX := Lib.hid bx
  obtain ⟨c0, c1, c2, c3, c4⟩ := bx
  clear hb0 hk hok hct hct' hop is_
  obtain ⟨H, hH⟩ : ∃ H : Int, ((h + 1 : Nat) : Int) = H := ⟨_, rfl⟩
  rw [hH]
  have hH0 : decide (H < 1) = false := by simp; omega
  have hH1 : H - 1 = (h : Int) := by omega
  have hH2 : 0 ≤ H := by omega
  have hH3 : H ≤ 201 := by omega
  clear hH
  cases hNn : (t.n == 0) with
  | false =>
    have hnb : (t.n != 0) = true := by rw [bne, hNn]; rfl
    have HF : Hid (stmtB (h + 1) t = false) := Lib.hid (by rw [HFORM.out, hNn]; rfl)
    go_enter Tryd.func71, Tryd.ntmps71
    go_wp2_with (first
      | (go_at_call 41; refine (risName_calls _ _ HS.out).mono ?_; rintro e w' ⟨rfl, rfl⟩))
    go_ret
    exact ⟨by rw [HF.out]; rfl, HB0.out⟩
  | true =>
  have hnb : (t.n != 0) = false := by rw [bne, hNn]; rfl
  have HE : Hid (stmtB (h + 1) t = (t.l.all (stmtB h) && t.s.data.toList.isEmpty)) := Lib.hid (by rw [HFORM.out, hNn]; rfl)
  go_enter Tryd.func71, Tryd.ntmps71
  go_wp2_with (first
    | (go_at_call 41; refine (risName_calls _ _ HS.out).mono ?_; rintro e w' ⟨rfl, rfl⟩))
  clear c0 c1 c2 c3 c4
  go_loopw [8] (fun i wr => ∃ k : Nat, k ≤ t.l.length ∧ i = .int .i64 k ∧ t.l.all (stmtB h) = (t.l.drop k).all (stmtB h) ∧ Below w0.heap.size w0 wr) (fun i _ => t.l.length - (intOf i).toNat)
  case atStart => exact ⟨0, by omega, rfl, rfl, Below.refl _ _⟩
  case round =>
    obtain ⟨k, hkl, rfl, hal, hb⟩ := hrel
    have HAL := Lib.hid hal
    have HB := Lib.hid hb
    clear hal hb
    obtain ⟨c0, c1, c2, c3, c4⟩ := HX.out.keep HB.out
    by_cases hlt : k < t.l.length
    · have hu : t.l[k]? = some t.l[k] := List.getElem?_eq_getElem hlt
      generalize t.l[k] = u at hu
      obtain ⟨p, su, d1, hd1, rfl, hpu, hku, huk⟩ := HK.out.at_ hu
      obtain ⟨_, A3, c3', rfl⟩ := hku.form
      have HKU := Lib.hid (hku.below HB.out)
      have HOU := Lib.hid huk
      have HCU := Lib.hid (Nat.le_trans (count_at hu) HCT.out)
      have HN : Hid (t.l.all (stmtB h) = (stmtB h u && (t.l.drop (k + 1)).all (stmtB h))) := Lib.hid (by rw [HAL.out, drop_at hu]; rfl)
      obtain ⟨a0, a1, a2, a3, a4⟩ := hpu.below HB.out
      clear hu hpu hku huk
      go_wp2_with fail
      refine (IS.out d1 wr u _ HKU.out HOU.out HCU.out).mono ?_
      rintro e w' ⟨rfl, hb'⟩
      have HB' := Lib.hid (HB.out.trans (hb'.mono HB.out.size))
      clear hb' a0 a1 a2 a3 a4 c0 c1 c2 c3 c4
      cases hab : stmtB h u with
      | true =>
        have HN' := Lib.hid (HN.out.trans (by rw [hab]; rfl : _ = (t.l.drop (k + 1)).all (stmtB h)))
        clear hab
        go_wp2
        go_roundw
        case rel => exact ⟨k + 1, by omega, by go_num, HN'.out, HB'.out⟩
        case measure => simp [intOf]; omega
      | false =>
        have HF : Hid (stmtB (h + 1) t = false) := Lib.hid (by rw [HE.out, HN.out, hab]; rfl)
        clear hab
        go_wp2
        go_ret
        exact ⟨by rw [HF.out]; rfl, HB0.out.trans (HB'.out.mono HB0.out.size)⟩
    · obtain rfl : k = t.l.length := by omega
      have hdd : decide ((t.l.length : Int) < (t.l.length : Int)) = false := by simp
      have HF : Hid (stmtB (h + 1) t = t.s.toList.isEmpty) := Lib.hid (by rw [HE.out, HAL.out, List.drop_length, ByteArray.toList_eq]; rfl)
      go_wp2
      go_ret
      exact ⟨by rw [HF.out]; rfl, HB0.out.trans (HB.out.mono HB0.out.size)⟩

set_option maxRecDepth 100000 in
set_option maxHeartbeats 4000000 in
theorem rstmt_34 (h : Nat) (hh : h ≤ 200) (ie : ExprR h) (ib : BlockR h) (d : Nat) (w : World) (t : Tree) (sl : Value) (hk : Kids w d t.l sl) (hok : t.ok) (hct : t.count ≤ 1073741824) (hop : t.op = 34) :
    Calls Tryd.prog 71 #[.agg #[.int .i64 t.op, .string t.s, .int .i64 t.n, sl, .int .i64 t.line], .int .i64 ((h + 1 : Nat) : Int)] w fun e w' => e = .returned (.bool (stmtB (h + 1) t)) ∧ Below w.heap.size w w' := by
  obtain ⟨hlen, A, c, rfl⟩ := hk.form
  unfold maxLen at hlen
  have HFORM := Lib.hid (form_34 h t hop)
  rw [hop]
  obtain ⟨w0, hw0⟩ : ∃ w0, w.alloc (.cells #[.int .i64 34, .string t.s, .int .i64 t.n, .slice A t.l.length c, .int .i64 t.line] 24) = w0 := ⟨_, rfl⟩
  have bx : Blk5 w0 w.heap.size 34 t.s t.n (.slice A t.l.length c) t.line := by rw [← hw0]; exact blk5_new _ _ _ _ _ _
  have hb0 : Below w.heap.size w w0 := by rw [← hw0]; exact (Below.refl _ _).alloc (Nat.le_refl _) _
  have HB0 := Lib.hid hb0
  have HS := Lib.hid hok.1
  have hct' : counts t.l ≤ 1073741824 := by rw [count_eq] at hct; omega
  have HK := Lib.hid (hk.below hb0)
  have HCT := Lib.hid hct'
  have IE := Lib.hid ie
  have IB := Lib.hid ib
  have HX := Lib.hid bx
  obtain ⟨c0, c1, c2, c3, c4⟩ := bx
  clear hb0 hk hok hct hct' hop ie ib
  obtain ⟨H, hH⟩ : ∃ H : Int, ((h + 1 : Nat) : Int) = H := ⟨_, rfl⟩
  rw [hH]
  have hH0 : decide (H < 1) = false := by simp; omega
  have hH1 : H - 1 = (h : Int) := by omega
  have hH2 : 0 ≤ H := by omega
  have hH3 : H ≤ 201 := by omega
  clear hH
  cases hNn : (t.n == 0) with
  | false =>
    have hnb : (t.n != 0) = true := by rw [bne, hNn]; rfl
    have HF : Hid (stmtB (h + 1) t = false) := Lib.hid (by rw [HFORM.out, hNn]; rfl)
    go_enter Tryd.func71, Tryd.ntmps71
    go_wp2_with (first
      | (go_at_call 41; refine (risName_calls _ _ HS.out).mono ?_; rintro e w' ⟨rfl, rfl⟩))
    go_ret
    exact ⟨by rw [HF.out]; rfl, HB0.out⟩
  | true =>
  have hnb : (t.n != 0) = false := by rw [bne, hNn]; rfl
  cases hE : t.s.toList.isEmpty with
  | false =>
    have hE' : t.s.data.toList.isEmpty = false := by rw [← ByteArray.toList_eq]; exact hE
    have HF : Hid (stmtB (h + 1) t = false) := Lib.hid (by rw [HFORM.out, hNn, hE']; rfl)
    go_enter Tryd.func71, Tryd.ntmps71
    go_wp2_with (first
      | (go_at_call 41; refine (risName_calls _ _ HS.out).mono ?_; rintro e w' ⟨rfl, rfl⟩))
    go_ret
    exact ⟨by rw [HF.out]; rfl, HB0.out⟩
  | true =>
  have hE' : t.s.data.toList.isEmpty = true := by rw [← ByteArray.toList_eq]; exact hE
  cases hL2 : ((t.l.length : Int) == 2) with
  | false =>
    have HF : Hid (stmtB (h + 1) t = false) := Lib.hid (by rw [HFORM.out, hNn, hE', two_len hL2]; rfl)
    go_enter Tryd.func71, Tryd.ntmps71
    go_wp2_with (first
      | (go_at_call 41; refine (risName_calls _ _ HS.out).mono ?_; rintro e w' ⟨rfl, rfl⟩))
    go_ret
    exact ⟨by rw [HF.out]; rfl, HB0.out⟩
  | true =>
  obtain ⟨a, b, hl⟩ := len_two hL2
  have hln : 1 < t.l.length := by rw [hl]; exact Nat.lt_succ_self 1
  have hln0 : 0 < t.l.length := by omega
  have HH : Hid (stmtB (h + 1) t = (exprB h a && blockB h b)) := Lib.hid (by rw [HFORM.out, hNn, hE', hl]; rfl)
  obtain ⟨p, sa, da, _, rfl, hpa, hka, hoa⟩ := HK.out.at_ (show t.l[0]? = some a by rw [hl]; rfl)
  rw [show p.add (0 * 5) = p from rfl] at hpa
  obtain ⟨_, Aa, ca, rfl⟩ := hka.form
  have hca : a.count ≤ 1073741824 := Nat.le_trans (count_at (show t.l[0]? = some a by rw [hl]; rfl)) HCT.out
  have HPA := Lib.hid hpa
  have HKA := Lib.hid hka
  have HOA := Lib.hid hoa
  have HCOA := Lib.hid hca
  obtain ⟨p1, sb, db, _, hpp1, hpb, hkb, hob⟩ := HK.out.at_ (show t.l[1]? = some b by rw [hl]; rfl)
  obtain rfl : p = p1 := by injection hpp1
  rw [show p.add (1 * 5) = ⟨p.block, p.off + 5, none⟩ from rfl] at hpb
  obtain ⟨_, Ab, cb, rfl⟩ := hkb.form
  have hcb : b.count ≤ 1073741824 := Nat.le_trans (count_at (show t.l[1]? = some b by rw [hl]; rfl)) HCT.out
  have HPB := Lib.hid hpb
  have HKB := Lib.hid hkb
  have HOB := Lib.hid hob
  have HCOB := Lib.hid hcb
  obtain ⟨a0, a1, a2, a3, a4⟩ := hpa
  clear hl hpb hka hkb hoa hob hca hcb
  have HCA := Lib.hid (IE.out da w0 a _ HKA.out HOA.out HCOA.out)
  have HCB := Lib.hid (fun (w9 : World) (hb9 : Below w0.heap.size w0 w9) => IB.out db w9 b _ (HKB.out.below hb9) HOB.out HCOB.out)
  cases hx : exprB h a with
  | false =>
    have HCA' := HCA
    rw [hx] at HCA'
    have HF : Hid (stmtB (h + 1) t = false) := Lib.hid (by rw [HH.out, hx]; rfl)
    go_enter Tryd.func71, Tryd.ntmps71
    go_wp2_with (first
      | (go_at_call 41; refine (risName_calls _ _ HS.out).mono ?_; rintro e w' ⟨rfl, rfl⟩)
      | (go_at_call 48; refine (HCA'.out).mono ?_; rintro e w1 ⟨rfl, hb⟩; have HB_w1 := Lib.hid (hb); clear hb; obtain ⟨c0w1, c1w1, c2w1, c3w1, c4w1⟩ := HX.out.keep HB_w1.out; obtain ⟨b0w1, b1w1, b2w1, b3w1, b4w1⟩ := HPB.out.below HB_w1.out))
    go_ret
    exact ⟨by rw [HF.out]; rfl, HB0.out.trans (HB_w1.out.mono HB0.out.size)⟩
  | true =>
  have HCA' := HCA
  rw [hx] at HCA'
  have HF : Hid (stmtB (h + 1) t = blockB h b) := Lib.hid (by rw [HH.out, hx]; rfl)
  go_enter Tryd.func71, Tryd.ntmps71
  go_wp2_with (first
    | (go_at_call 41; refine (risName_calls _ _ HS.out).mono ?_; rintro e w' ⟨rfl, rfl⟩)
    | (go_at_call 46; refine (HCB.out w1 HB_w1.out).mono ?_; rintro e w2 ⟨rfl, hb⟩; have HB_w2 := Lib.hid (HB_w1.out.trans (hb.mono HB_w1.out.size)); clear hb)
    | (go_at_call 48; refine (HCA'.out).mono ?_; rintro e w1 ⟨rfl, hb⟩; have HB_w1 := Lib.hid (hb); clear hb; obtain ⟨c0w1, c1w1, c2w1, c3w1, c4w1⟩ := HX.out.keep HB_w1.out; obtain ⟨b0w1, b1w1, b2w1, b3w1, b4w1⟩ := HPB.out.below HB_w1.out))
  go_ret
  exact ⟨by rw [HF.out]; rfl, HB0.out.trans (HB_w2.out.mono HB0.out.size)⟩

set_option maxRecDepth 100000 in
set_option maxHeartbeats 4000000 in
theorem rstmt_35 (h : Nat) (hh : h ≤ 200) (ie : ExprR h) (ib : BlockR h) (d : Nat) (w : World) (t : Tree) (sl : Value) (hk : Kids w d t.l sl) (hok : t.ok) (hct : t.count ≤ 1073741824) (hop : t.op = 35) :
    Calls Tryd.prog 71 #[.agg #[.int .i64 t.op, .string t.s, .int .i64 t.n, sl, .int .i64 t.line], .int .i64 ((h + 1 : Nat) : Int)] w fun e w' => e = .returned (.bool (stmtB (h + 1) t)) ∧ Below w.heap.size w w' := by
  obtain ⟨hlen, A, c, rfl⟩ := hk.form
  unfold maxLen at hlen
  have HFORM := Lib.hid (form_35 h t hop)
  rw [hop]
  obtain ⟨w0, hw0⟩ : ∃ w0, w.alloc (.cells #[.int .i64 35, .string t.s, .int .i64 t.n, .slice A t.l.length c, .int .i64 t.line] 24) = w0 := ⟨_, rfl⟩
  have bx : Blk5 w0 w.heap.size 35 t.s t.n (.slice A t.l.length c) t.line := by rw [← hw0]; exact blk5_new _ _ _ _ _ _
  have hb0 : Below w.heap.size w w0 := by rw [← hw0]; exact (Below.refl _ _).alloc (Nat.le_refl _) _
  have HB0 := Lib.hid hb0
  have HS := Lib.hid hok.1
  have hct' : counts t.l ≤ 1073741824 := by rw [count_eq] at hct; omega
  have HK := Lib.hid (hk.below hb0)
  have HCT := Lib.hid hct'
  have IE := Lib.hid ie
  have IB := Lib.hid ib
  have HX := Lib.hid bx
  obtain ⟨c0, c1, c2, c3, c4⟩ := bx
  clear hb0 hk hok hct hct' hop ie ib
  obtain ⟨H, hH⟩ : ∃ H : Int, ((h + 1 : Nat) : Int) = H := ⟨_, rfl⟩
  rw [hH]
  have hH0 : decide (H < 1) = false := by simp; omega
  have hH1 : H - 1 = (h : Int) := by omega
  have hH2 : 0 ≤ H := by omega
  have hH3 : H ≤ 201 := by omega
  clear hH
  cases hNn : (t.n == 0) with
  | false =>
    have hnb : (t.n != 0) = true := by rw [bne, hNn]; rfl
    have HF : Hid (stmtB (h + 1) t = false) := Lib.hid (by rw [HFORM.out, hNn]; rfl)
    go_enter Tryd.func71, Tryd.ntmps71
    go_wp2_with (first
      | (go_at_call 41; refine (risName_calls _ _ HS.out).mono ?_; rintro e w' ⟨rfl, rfl⟩))
    go_ret
    exact ⟨by rw [HF.out]; rfl, HB0.out⟩
  | true =>
  have hnb : (t.n != 0) = false := by rw [bne, hNn]; rfl
  cases hNM : nameB t.s.data.toList with
  | false =>
    have HF : Hid (stmtB (h + 1) t = false) := Lib.hid (by rw [HFORM.out, hNn, hNM]; rfl)
    go_enter Tryd.func71, Tryd.ntmps71
    go_wp2_with (first
      | (go_at_call 41; refine (risName_calls _ _ HS.out).mono ?_; rintro e w' ⟨rfl, rfl⟩))
    go_ret
    exact ⟨by rw [HF.out]; rfl, HB0.out⟩
  | true =>
  cases hL2 : ((t.l.length : Int) == 2) with
  | false =>
    have HF : Hid (stmtB (h + 1) t = false) := Lib.hid (by rw [HFORM.out, hNn, hNM, two_len hL2]; rfl)
    go_enter Tryd.func71, Tryd.ntmps71
    go_wp2_with (first
      | (go_at_call 41; refine (risName_calls _ _ HS.out).mono ?_; rintro e w' ⟨rfl, rfl⟩))
    go_ret
    exact ⟨by rw [HF.out]; rfl, HB0.out⟩
  | true =>
  obtain ⟨a, b, hl⟩ := len_two hL2
  have hln : 1 < t.l.length := by rw [hl]; exact Nat.lt_succ_self 1
  have hln0 : 0 < t.l.length := by omega
  have HH : Hid (stmtB (h + 1) t = (exprB h a && blockB h b)) := Lib.hid (by rw [HFORM.out, hNn, hNM, hl]; rfl)
  obtain ⟨p, sa, da, _, rfl, hpa, hka, hoa⟩ := HK.out.at_ (show t.l[0]? = some a by rw [hl]; rfl)
  rw [show p.add (0 * 5) = p from rfl] at hpa
  obtain ⟨_, Aa, ca, rfl⟩ := hka.form
  have hca : a.count ≤ 1073741824 := Nat.le_trans (count_at (show t.l[0]? = some a by rw [hl]; rfl)) HCT.out
  have HPA := Lib.hid hpa
  have HKA := Lib.hid hka
  have HOA := Lib.hid hoa
  have HCOA := Lib.hid hca
  obtain ⟨p1, sb, db, _, hpp1, hpb, hkb, hob⟩ := HK.out.at_ (show t.l[1]? = some b by rw [hl]; rfl)
  obtain rfl : p = p1 := by injection hpp1
  rw [show p.add (1 * 5) = ⟨p.block, p.off + 5, none⟩ from rfl] at hpb
  obtain ⟨_, Ab, cb, rfl⟩ := hkb.form
  have hcb : b.count ≤ 1073741824 := Nat.le_trans (count_at (show t.l[1]? = some b by rw [hl]; rfl)) HCT.out
  have HPB := Lib.hid hpb
  have HKB := Lib.hid hkb
  have HOB := Lib.hid hob
  have HCOB := Lib.hid hcb
  obtain ⟨a0, a1, a2, a3, a4⟩ := hpa
  clear hl hpb hka hkb hoa hob hca hcb
  have HCA := Lib.hid (IE.out da w0 a _ HKA.out HOA.out HCOA.out)
  have HCB := Lib.hid (fun (w9 : World) (hb9 : Below w0.heap.size w0 w9) => IB.out db w9 b _ (HKB.out.below hb9) HOB.out HCOB.out)
  cases hx : exprB h a with
  | false =>
    have HCA' := HCA
    rw [hx] at HCA'
    have HF : Hid (stmtB (h + 1) t = false) := Lib.hid (by rw [HH.out, hx]; rfl)
    go_enter Tryd.func71, Tryd.ntmps71
    go_wp2_with (first
      | (go_at_call 41; refine (risName_calls _ _ HS.out).mono ?_; rintro e w' ⟨rfl, rfl⟩)
      | (go_at_call 48; refine (HCA'.out).mono ?_; rintro e w1 ⟨rfl, hb⟩; have HB_w1 := Lib.hid (hb); clear hb; obtain ⟨c0w1, c1w1, c2w1, c3w1, c4w1⟩ := HX.out.keep HB_w1.out; obtain ⟨b0w1, b1w1, b2w1, b3w1, b4w1⟩ := HPB.out.below HB_w1.out))
    go_ret
    exact ⟨by rw [HF.out]; rfl, HB0.out.trans (HB_w1.out.mono HB0.out.size)⟩
  | true =>
  have HCA' := HCA
  rw [hx] at HCA'
  have HF : Hid (stmtB (h + 1) t = blockB h b) := Lib.hid (by rw [HH.out, hx]; rfl)
  go_enter Tryd.func71, Tryd.ntmps71
  go_wp2_with (first
    | (go_at_call 41; refine (risName_calls _ _ HS.out).mono ?_; rintro e w' ⟨rfl, rfl⟩)
    | (go_at_call 46; refine (HCB.out w1 HB_w1.out).mono ?_; rintro e w2 ⟨rfl, hb⟩; have HB_w2 := Lib.hid (HB_w1.out.trans (hb.mono HB_w1.out.size)); clear hb)
    | (go_at_call 48; refine (HCA'.out).mono ?_; rintro e w1 ⟨rfl, hb⟩; have HB_w1 := Lib.hid (hb); clear hb; obtain ⟨c0w1, c1w1, c2w1, c3w1, c4w1⟩ := HX.out.keep HB_w1.out; obtain ⟨b0w1, b1w1, b2w1, b3w1, b4w1⟩ := HPB.out.below HB_w1.out))
  go_ret
  exact ⟨by rw [HF.out]; rfl, HB0.out.trans (HB_w2.out.mono HB0.out.size)⟩

end Go.Proofs.YtcidccifnaecaaaDoor

namespace Go.Proofs.YtcidccifnaecaaaDoor
open Go.RowKit

theorem len_three {l : List Tree} (h : ((l.length : Int) == 3) = true) : ∃ a b c, l = [a, b, c] := by
  match l, h with
  | [a, b, c], _ => exact ⟨a, b, c, rfl⟩
  | [], h => simp at h
  | [_], h => simp at h
  | [_, _], h => simp at h
  | _ :: _ :: _ :: _ :: _, h => simp at h; omega
theorem if_len {h : Nat} {l : List Tree} (h2 : ((l.length : Int) == 2) = false) (h3 : ((l.length : Int) == 3) = false) : ifB h l = false := by
  match l, h2, h3 with
  | [], _, _ => rfl
  | [_], _, _ => rfl
  | [_, _], h2, _ => simp at h2
  | [_, _, _], _, h3 => simp at h3
  | _ :: _ :: _ :: _ :: _, _, _ => rfl

set_option maxRecDepth 100000 in
set_option maxHeartbeats 4000000 in
theorem rstmt_38 (h : Nat) (hh : h ≤ 200) (ib : BlockR h) (d : Nat) (w : World) (t : Tree) (sl : Value) (hk : Kids w d t.l sl) (hok : t.ok) (hct : t.count ≤ 1073741824) (hop : t.op = 38) :
    Calls Tryd.prog 71 #[.agg #[.int .i64 t.op, .string t.s, .int .i64 t.n, sl, .int .i64 t.line], .int .i64 ((h + 1 : Nat) : Int)] w fun e w' => e = .returned (.bool (stmtB (h + 1) t)) ∧ Below w.heap.size w w' := by
  obtain ⟨hlen, A, c, rfl⟩ := hk.form
  unfold maxLen at hlen
  have HFORM := Lib.hid (form_38 h t hop)
  rw [hop]
  obtain ⟨w0, hw0⟩ : ∃ w0, w.alloc (.cells #[.int .i64 38, .string t.s, .int .i64 t.n, .slice A t.l.length c, .int .i64 t.line] 24) = w0 := ⟨_, rfl⟩
  have bx : Blk5 w0 w.heap.size 38 t.s t.n (.slice A t.l.length c) t.line := by rw [← hw0]; exact blk5_new _ _ _ _ _ _
  have hb0 : Below w.heap.size w w0 := by rw [← hw0]; exact (Below.refl _ _).alloc (Nat.le_refl _) _
  have HB0 := Lib.hid hb0
  have HS := Lib.hid hok.1
  have hct' : counts t.l ≤ 1073741824 := by rw [count_eq] at hct; omega
  have HK := Lib.hid (hk.below hb0)
  have HCT := Lib.hid hct'
  have IB := Lib.hid ib
  have HX := Lib.hid bx
  obtain ⟨c0, c1, c2, c3, c4⟩ := bx
  clear hb0 hk hok hct hct' hop ib
  obtain ⟨H, hH⟩ : ∃ H : Int, ((h + 1 : Nat) : Int) = H := ⟨_, rfl⟩
  rw [hH]
  have hH0 : decide (H < 1) = false := by simp; omega
  have hH1 : H - 1 = (h : Int) := by omega
  have hH2 : 0 ≤ H := by omega
  have hH3 : H ≤ 201 := by omega
  clear hH
  cases hNn : (t.n == 0) with
  | false =>
    have hnb : (t.n != 0) = true := by rw [bne, hNn]; rfl
    have HF : Hid (stmtB (h + 1) t = false) := Lib.hid (by rw [HFORM.out, hNn]; rfl)
    go_enter Tryd.func71, Tryd.ntmps71
    go_wp2_with (first
      | (go_at_call 41; refine (risName_calls _ _ HS.out).mono ?_; rintro e w' ⟨rfl, rfl⟩))
    go_ret
    exact ⟨by rw [HF.out]; rfl, HB0.out⟩
  | true =>
  have hnb : (t.n != 0) = false := by rw [bne, hNn]; rfl
  cases hNM : nameB t.s.data.toList with
  | false =>
    have HF : Hid (stmtB (h + 1) t = false) := Lib.hid (by rw [HFORM.out, hNn, hNM]; rfl)
    go_enter Tryd.func71, Tryd.ntmps71
    go_wp2_with (first
      | (go_at_call 41; refine (risName_calls _ _ HS.out).mono ?_; rintro e w' ⟨rfl, rfl⟩))
    go_ret
    exact ⟨by rw [HF.out]; rfl, HB0.out⟩
  | true =>
  cases hL2 : ((t.l.length : Int) == 2) with
  | false =>
    have HF : Hid (stmtB (h + 1) t = false) := Lib.hid (by rw [HFORM.out, hNn, hNM, two_len hL2]; rfl)
    go_enter Tryd.func71, Tryd.ntmps71
    go_wp2_with (first
      | (go_at_call 41; refine (risName_calls _ _ HS.out).mono ?_; rintro e w' ⟨rfl, rfl⟩))
    go_ret
    exact ⟨by rw [HF.out]; rfl, HB0.out⟩
  | true =>
  obtain ⟨a, b, hl⟩ := len_two hL2
  have hln : 1 < t.l.length := by rw [hl]; exact Nat.lt_succ_self 1
  have hln0 : 0 < t.l.length := by omega
  have HH : Hid (stmtB (h + 1) t = (blockB h a && blockB h b)) := Lib.hid (by rw [HFORM.out, hNn, hNM, hl]; rfl)
  obtain ⟨p, sa, da, _, rfl, hpa, hka, hoa⟩ := HK.out.at_ (show t.l[0]? = some a by rw [hl]; rfl)
  rw [show p.add (0 * 5) = p from rfl] at hpa
  obtain ⟨_, Aa, ca, rfl⟩ := hka.form
  have hca : a.count ≤ 1073741824 := Nat.le_trans (count_at (show t.l[0]? = some a by rw [hl]; rfl)) HCT.out
  have HPA := Lib.hid hpa
  have HKA := Lib.hid hka
  have HOA := Lib.hid hoa
  have HCOA := Lib.hid hca
  obtain ⟨p1, sb, db, _, hpp1, hpb, hkb, hob⟩ := HK.out.at_ (show t.l[1]? = some b by rw [hl]; rfl)
  obtain rfl : p = p1 := by injection hpp1
  rw [show p.add (1 * 5) = ⟨p.block, p.off + 5, none⟩ from rfl] at hpb
  obtain ⟨_, Ab, cb, rfl⟩ := hkb.form
  have hcb : b.count ≤ 1073741824 := Nat.le_trans (count_at (show t.l[1]? = some b by rw [hl]; rfl)) HCT.out
  have HPB := Lib.hid hpb
  have HKB := Lib.hid hkb
  have HOB := Lib.hid hob
  have HCOB := Lib.hid hcb
  obtain ⟨a0, a1, a2, a3, a4⟩ := hpa
  clear hl hpb hka hkb hoa hob hca hcb
  have HCA := Lib.hid (IB.out da w0 a _ HKA.out HOA.out HCOA.out)
  have HCB := Lib.hid (fun (w9 : World) (hb9 : Below w0.heap.size w0 w9) => IB.out db w9 b _ (HKB.out.below hb9) HOB.out HCOB.out)
  cases hx : blockB h a with
  | false =>
    have HCA' := HCA
    rw [hx] at HCA'
    have HF : Hid (stmtB (h + 1) t = false) := Lib.hid (by rw [HH.out, hx]; rfl)
    go_enter Tryd.func71, Tryd.ntmps71
    go_wp2_with (first
      | (go_at_call 41; refine (risName_calls _ _ HS.out).mono ?_; rintro e w' ⟨rfl, rfl⟩)
      | (go_at_call 46; refine (HCA'.out).mono ?_; rintro e w1 ⟨rfl, hb⟩; have HB_w1 := Lib.hid (hb); clear hb; obtain ⟨c0w1, c1w1, c2w1, c3w1, c4w1⟩ := HX.out.keep HB_w1.out; obtain ⟨b0w1, b1w1, b2w1, b3w1, b4w1⟩ := HPB.out.below HB_w1.out))
    go_ret
    exact ⟨by rw [HF.out]; rfl, HB0.out.trans (HB_w1.out.mono HB0.out.size)⟩
  | true =>
  have HCA' := HCA
  rw [hx] at HCA'
  have HF : Hid (stmtB (h + 1) t = blockB h b) := Lib.hid (by rw [HH.out, hx]; rfl)
  go_enter Tryd.func71, Tryd.ntmps71
  go_wp2_with (first
    | (go_at_call 41; refine (risName_calls _ _ HS.out).mono ?_; rintro e w' ⟨rfl, rfl⟩)
    | (go_at_call 46; refine (HCB.out w1 HB_w1.out).mono ?_; rintro e w2 ⟨rfl, hb⟩; have HB_w2 := Lib.hid (HB_w1.out.trans (hb.mono HB_w1.out.size)); clear hb)
    | (go_at_call 46; refine (HCA'.out).mono ?_; rintro e w1 ⟨rfl, hb⟩; have HB_w1 := Lib.hid (hb); clear hb; obtain ⟨c0w1, c1w1, c2w1, c3w1, c4w1⟩ := HX.out.keep HB_w1.out; obtain ⟨b0w1, b1w1, b2w1, b3w1, b4w1⟩ := HPB.out.below HB_w1.out))
  go_ret
  exact ⟨by rw [HF.out]; rfl, HB0.out.trans (HB_w2.out.mono HB0.out.size)⟩

set_option maxRecDepth 100000 in
set_option maxHeartbeats 4000000 in
theorem rstmt_33 (h : Nat) (hh : h ≤ 200) (ie : ExprR h) (ib : BlockR h) (d : Nat) (w : World) (t : Tree) (sl : Value) (hk : Kids w d t.l sl) (hok : t.ok) (hct : t.count ≤ 1073741824) (hop : t.op = 33) :
    Calls Tryd.prog 71 #[.agg #[.int .i64 t.op, .string t.s, .int .i64 t.n, sl, .int .i64 t.line], .int .i64 ((h + 1 : Nat) : Int)] w fun e w' => e = .returned (.bool (stmtB (h + 1) t)) ∧ Below w.heap.size w w' := by
  obtain ⟨hlen, A, c, rfl⟩ := hk.form
  unfold maxLen at hlen
  have HFORM := Lib.hid (form_33 h t hop)
  rw [hop]
  obtain ⟨w0, hw0⟩ : ∃ w0, w.alloc (.cells #[.int .i64 33, .string t.s, .int .i64 t.n, .slice A t.l.length c, .int .i64 t.line] 24) = w0 := ⟨_, rfl⟩
  have bx : Blk5 w0 w.heap.size 33 t.s t.n (.slice A t.l.length c) t.line := by rw [← hw0]; exact blk5_new _ _ _ _ _ _
  have hb0 : Below w.heap.size w w0 := by rw [← hw0]; exact (Below.refl _ _).alloc (Nat.le_refl _) _
  have HB0 := Lib.hid hb0
  have HS := Lib.hid hok.1
  have hct' : counts t.l ≤ 1073741824 := by rw [count_eq] at hct; omega
  have HK := Lib.hid (hk.below hb0)
  have HCT := Lib.hid hct'
  have IE := Lib.hid ie
  have IB := Lib.hid ib
  have HX := Lib.hid bx
  obtain ⟨c0, c1, c2, c3, c4⟩ := bx
  clear hb0 hk hok hct hct' hop ie ib
  obtain ⟨H, hH⟩ : ∃ H : Int, ((h + 1 : Nat) : Int) = H := ⟨_, rfl⟩
  rw [hH]
  have hH0 : decide (H < 1) = false := by simp; omega
  have hH1 : H - 1 = (h : Int) := by omega
  have hH2 : 0 ≤ H := by omega
  have hH3 : H ≤ 201 := by omega
  clear hH
  cases hNn : (t.n == 0) with
  | false =>
    have hnb : (t.n != 0) = true := by rw [bne, hNn]; rfl
    have HF : Hid (stmtB (h + 1) t = false) := Lib.hid (by rw [HFORM.out, hNn]; rfl)
    go_enter Tryd.func71, Tryd.ntmps71
    go_wp2_with (first
      | (go_at_call 41; refine (risName_calls _ _ HS.out).mono ?_; rintro e w' ⟨rfl, rfl⟩))
    go_ret
    exact ⟨by rw [HF.out]; rfl, HB0.out⟩
  | true =>
  have hnb : (t.n != 0) = false := by rw [bne, hNn]; rfl
  cases hE : t.s.toList.isEmpty with
  | false =>
    have hE' : t.s.data.toList.isEmpty = false := by rw [← ByteArray.toList_eq]; exact hE
    have HF : Hid (stmtB (h + 1) t = false) := Lib.hid (by rw [HFORM.out, hNn, hE']; rfl)
    go_enter Tryd.func71, Tryd.ntmps71
    go_wp2_with (first
      | (go_at_call 41; refine (risName_calls _ _ HS.out).mono ?_; rintro e w' ⟨rfl, rfl⟩))
    go_ret
    exact ⟨by rw [HF.out]; rfl, HB0.out⟩
  | true =>
  have hE' : t.s.data.toList.isEmpty = true := by rw [← ByteArray.toList_eq]; exact hE
  cases hL2 : ((t.l.length : Int) == 2) with
  | true =>
    obtain ⟨a, b, hl⟩ := len_two hL2
    have hln : 1 < t.l.length := by rw [hl]; simp
    have hln0 : 0 < t.l.length := by omega
    have hkq : (t.l.length : Int) - 1 = 1 := by rw [hl]; rfl
    have HH : Hid (stmtB (h + 1) t = (exprB h a && blockB h b)) := Lib.hid (by rw [HFORM.out, hNn, hE', hl]; rfl)
    obtain ⟨p, sa, da, _, rfl, hpa, hka, hoa⟩ := HK.out.at_ (show t.l[0]? = some a by rw [hl]; rfl)
    rw [show p.add (0 * 5) = p from rfl] at hpa
    obtain ⟨_, Aa, ca, rfl⟩ := hka.form
    have hca : a.count ≤ 1073741824 := Nat.le_trans (count_at (show t.l[0]? = some a by rw [hl]; rfl)) HCT.out
    have HPA := Lib.hid hpa
    have HKA := Lib.hid hka
    have HOA := Lib.hid hoa
    have HCOA := Lib.hid hca
    obtain ⟨p1, sb, db, _, hpp1, hpb, hkb, hob⟩ := HK.out.at_ (show t.l[1]? = some b by rw [hl]; rfl)
    obtain rfl : p = p1 := by injection hpp1
    rw [show p.add (1 * 5) = ⟨p.block, p.off + 5, none⟩ from rfl] at hpb
    obtain ⟨_, Ab, cb, rfl⟩ := hkb.form
    have hcb : b.count ≤ 1073741824 := Nat.le_trans (count_at (show t.l[1]? = some b by rw [hl]; rfl)) HCT.out
    have HPB := Lib.hid hpb
    have HKB := Lib.hid hkb
    have HOB := Lib.hid hob
    have HCOB := Lib.hid hcb
    obtain ⟨a0, a1, a2, a3, a4⟩ := hpa
    clear hl hpb hka hkb hoa hob hca hcb
    have HCA := Lib.hid (IE.out da w0 a _ HKA.out HOA.out HCOA.out)
    have HCB := Lib.hid (fun (w9 : World) (hb9 : Below w0.heap.size w0 w9) => IB.out db w9 b _ (HKB.out.below hb9) HOB.out HCOB.out)
    cases hx : exprB h a with
    | false =>
      have HCA' := HCA
      rw [hx] at HCA'
      have HF : Hid (stmtB (h + 1) t = false) := Lib.hid (by rw [HH.out, hx]; rfl)
      go_enter Tryd.func71, Tryd.ntmps71
      go_wp2_with (first
        | (go_at_call 41; refine (risName_calls _ _ HS.out).mono ?_; rintro e w' ⟨rfl, rfl⟩)
        | (go_at_call 48; refine (HCA'.out).mono ?_; rintro e w1 ⟨rfl, hb⟩; have HB_w1 := Lib.hid (hb); clear hb; obtain ⟨c0w1, c1w1, c2w1, c3w1, c4w1⟩ := HX.out.keep HB_w1.out; obtain ⟨b0w1, b1w1, b2w1, b3w1, b4w1⟩ := HPB.out.below HB_w1.out))
      go_ret
      exact ⟨by rw [HF.out]; rfl, HB0.out.trans (HB_w1.out.mono HB0.out.size)⟩
    | true =>
    have HCA' := HCA
    rw [hx] at HCA'
    cases hy : blockB h b with
    | false =>
      have HCB' := HCB
      simp only [hy] at HCB'
      have HF : Hid (stmtB (h + 1) t = false) := Lib.hid (by rw [HH.out, hx, hy]; rfl)
      go_enter Tryd.func71, Tryd.ntmps71
      go_wp2_with (first
        | (go_at_call 41; refine (risName_calls _ _ HS.out).mono ?_; rintro e w' ⟨rfl, rfl⟩)
        | (go_at_call 48; refine (HCA'.out).mono ?_; rintro e w1 ⟨rfl, hb⟩; have HB_w1 := Lib.hid (hb); clear hb; obtain ⟨c0w1, c1w1, c2w1, c3w1, c4w1⟩ := HX.out.keep HB_w1.out; obtain ⟨b0w1, b1w1, b2w1, b3w1, b4w1⟩ := HPB.out.below HB_w1.out)
        | (go_at_call 46; refine (HCB'.out w1 HB_w1.out).mono ?_; rintro e w2 ⟨rfl, hb⟩; have HB_w2 := Lib.hid (HB_w1.out.trans (hb.mono HB_w1.out.size)); clear hb))
      go_ret
      exact ⟨by rw [HF.out]; rfl, HB0.out.trans (HB_w2.out.mono HB0.out.size)⟩
    | true =>
    have HCB' := HCB
    simp only [hy] at HCB'
    have HF : Hid (stmtB (h + 1) t = true) := Lib.hid (by rw [HH.out, hx, hy]; rfl)
    go_enter Tryd.func71, Tryd.ntmps71
    go_wp2_with (first
      | (go_at_call 41; refine (risName_calls _ _ HS.out).mono ?_; rintro e w' ⟨rfl, rfl⟩)
      | (go_at_call 48; refine (HCA'.out).mono ?_; rintro e w1 ⟨rfl, hb⟩; have HB_w1 := Lib.hid (hb); clear hb; obtain ⟨c0w1, c1w1, c2w1, c3w1, c4w1⟩ := HX.out.keep HB_w1.out; obtain ⟨b0w1, b1w1, b2w1, b3w1, b4w1⟩ := HPB.out.below HB_w1.out)
      | (go_at_call 46; refine (HCB'.out w2 HB_w2.out).mono ?_; rintro e w3 ⟨rfl, hb⟩; have HB_w3 := Lib.hid (HB_w2.out.trans (hb.mono HB_w2.out.size)); clear hb)
      | (go_at_call 46; refine (HCB'.out w1 HB_w1.out).mono ?_; rintro e w2 ⟨rfl, hb⟩; have HB_w2 := Lib.hid (HB_w1.out.trans (hb.mono HB_w1.out.size)); clear hb; obtain ⟨c0w2, c1w2, c2w2, c3w2, c4w2⟩ := HX.out.keep HB_w2.out; obtain ⟨b0w2, b1w2, b2w2, b3w2, b4w2⟩ := HPB.out.below HB_w2.out))
    go_ret
    exact ⟨by rw [HF.out]; rfl, HB0.out.trans (HB_w3.out.mono HB0.out.size)⟩
  | false =>
  cases hL3 : ((t.l.length : Int) == 3) with
  | true =>
    obtain ⟨a, b, g, hl⟩ := len_three hL3
    have hln : 1 < t.l.length := by rw [hl]; simp
    have hln0 : 0 < t.l.length := by omega
    have hkq : (t.l.length : Int) - 1 = 2 := by rw [hl]; rfl
    have hln2 : 2 < t.l.length := by rw [hl]; simp
    have HH : Hid (stmtB (h + 1) t = (exprB h a && blockB h b && blockB h g)) := Lib.hid (by rw [HFORM.out, hNn, hE', hl]; rfl)
    obtain ⟨p, sa, da, _, rfl, hpa, hka, hoa⟩ := HK.out.at_ (show t.l[0]? = some a by rw [hl]; rfl)
    rw [show p.add (0 * 5) = p from rfl] at hpa
    obtain ⟨_, Aa, ca, rfl⟩ := hka.form
    have hca : a.count ≤ 1073741824 := Nat.le_trans (count_at (show t.l[0]? = some a by rw [hl]; rfl)) HCT.out
    have HPA := Lib.hid hpa
    have HKA := Lib.hid hka
    have HOA := Lib.hid hoa
    have HCOA := Lib.hid hca
    obtain ⟨p1, sb, db, _, hpp1, hpb, hkb, hob⟩ := HK.out.at_ (show t.l[1]? = some b by rw [hl]; rfl)
    obtain rfl : p = p1 := by injection hpp1
    rw [show p.add (1 * 5) = ⟨p.block, p.off + 5, none⟩ from rfl] at hpb
    obtain ⟨_, Ab, cb, rfl⟩ := hkb.form
    have hcb : b.count ≤ 1073741824 := Nat.le_trans (count_at (show t.l[1]? = some b by rw [hl]; rfl)) HCT.out
    have HPB := Lib.hid hpb
    have HKB := Lib.hid hkb
    have HOB := Lib.hid hob
    have HCOB := Lib.hid hcb
    obtain ⟨p2, sg, dg, _, hpp2, hpg, hkg, hog⟩ := HK.out.at_ (show t.l[2]? = some g by rw [hl]; rfl)
    obtain rfl : p = p2 := by injection hpp2
    rw [show p.add (2 * 5) = ⟨p.block, p.off + 10, none⟩ from rfl] at hpg
    obtain ⟨_, Ag, cg, rfl⟩ := hkg.form
    have hcg : g.count ≤ 1073741824 := Nat.le_trans (count_at (show t.l[2]? = some g by rw [hl]; rfl)) HCT.out
    have HPG := Lib.hid hpg
    have HKG := Lib.hid hkg
    have HOG := Lib.hid hog
    have HCOG := Lib.hid hcg
    obtain ⟨a0, a1, a2, a3, a4⟩ := hpa
    clear hl hpb hka hkb hoa hob hca hcb hpg hkg hog hcg
    have HCA := Lib.hid (IE.out da w0 a _ HKA.out HOA.out HCOA.out)
    have HCB := Lib.hid (fun (w9 : World) (hb9 : Below w0.heap.size w0 w9) => IB.out db w9 b _ (HKB.out.below hb9) HOB.out HCOB.out)
    have HCG := Lib.hid (fun (w9 : World) (hb9 : Below w0.heap.size w0 w9) => IB.out dg w9 g _ (HKG.out.below hb9) HOG.out HCOG.out)
    cases hx : exprB h a with
    | false =>
      have HCA' := HCA
      rw [hx] at HCA'
      have HF : Hid (stmtB (h + 1) t = false) := Lib.hid (by rw [HH.out, hx]; rfl)
      go_enter Tryd.func71, Tryd.ntmps71
      go_wp2_with (first
        | (go_at_call 41; refine (risName_calls _ _ HS.out).mono ?_; rintro e w' ⟨rfl, rfl⟩)
        | (go_at_call 48; refine (HCA'.out).mono ?_; rintro e w1 ⟨rfl, hb⟩; have HB_w1 := Lib.hid (hb); clear hb; obtain ⟨c0w1, c1w1, c2w1, c3w1, c4w1⟩ := HX.out.keep HB_w1.out; obtain ⟨b0w1, b1w1, b2w1, b3w1, b4w1⟩ := HPB.out.below HB_w1.out))
      go_ret
      exact ⟨by rw [HF.out]; rfl, HB0.out.trans (HB_w1.out.mono HB0.out.size)⟩
    | true =>
    have HCA' := HCA
    rw [hx] at HCA'
    cases hy : blockB h b with
    | false =>
      have HCB' := HCB
      simp only [hy] at HCB'
      have HF : Hid (stmtB (h + 1) t = false) := Lib.hid (by rw [HH.out, hx, hy]; rfl)
      go_enter Tryd.func71, Tryd.ntmps71
      go_wp2_with (first
        | (go_at_call 41; refine (risName_calls _ _ HS.out).mono ?_; rintro e w' ⟨rfl, rfl⟩)
        | (go_at_call 48; refine (HCA'.out).mono ?_; rintro e w1 ⟨rfl, hb⟩; have HB_w1 := Lib.hid (hb); clear hb; obtain ⟨c0w1, c1w1, c2w1, c3w1, c4w1⟩ := HX.out.keep HB_w1.out; obtain ⟨b0w1, b1w1, b2w1, b3w1, b4w1⟩ := HPB.out.below HB_w1.out)
        | (go_at_call 46; refine (HCB'.out w1 HB_w1.out).mono ?_; rintro e w2 ⟨rfl, hb⟩; have HB_w2 := Lib.hid (HB_w1.out.trans (hb.mono HB_w1.out.size)); clear hb))
      go_ret
      exact ⟨by rw [HF.out]; rfl, HB0.out.trans (HB_w2.out.mono HB0.out.size)⟩
    | true =>
    have HCB' := HCB
    simp only [hy] at HCB'
    have HF : Hid (stmtB (h + 1) t = blockB h g) := Lib.hid (by rw [HH.out, hx, hy]; rfl)
    go_enter Tryd.func71, Tryd.ntmps71
    go_wp2_with (first
      | (go_at_call 41; refine (risName_calls _ _ HS.out).mono ?_; rintro e w' ⟨rfl, rfl⟩)
      | (go_at_call 48; refine (HCA'.out).mono ?_; rintro e w1 ⟨rfl, hb⟩; have HB_w1 := Lib.hid (hb); clear hb; obtain ⟨c0w1, c1w1, c2w1, c3w1, c4w1⟩ := HX.out.keep HB_w1.out; obtain ⟨b0w1, b1w1, b2w1, b3w1, b4w1⟩ := HPB.out.below HB_w1.out)
      | (go_at_call 46; refine (HCG.out w2 HB_w2.out).mono ?_; rintro e w3 ⟨rfl, hb⟩; have HB_w3 := Lib.hid (HB_w2.out.trans (hb.mono HB_w2.out.size)); clear hb)
      | (go_at_call 46; refine (HCB'.out w1 HB_w1.out).mono ?_; rintro e w2 ⟨rfl, hb⟩; have HB_w2 := Lib.hid (HB_w1.out.trans (hb.mono HB_w1.out.size)); clear hb; obtain ⟨c0w2, c1w2, c2w2, c3w2, c4w2⟩ := HX.out.keep HB_w2.out; obtain ⟨g0w2, g1w2, g2w2, g3w2, g4w2⟩ := HPG.out.below HB_w2.out))
    go_ret
    exact ⟨by rw [HF.out]; rfl, HB0.out.trans (HB_w3.out.mono HB0.out.size)⟩
  | false =>
    have HF : Hid (stmtB (h + 1) t = false) := Lib.hid (by rw [HFORM.out, hNn, hE', if_len hL2 hL3]; rfl)
    go_enter Tryd.func71, Tryd.ntmps71
    go_wp2_with (first
      | (go_at_call 41; refine (risName_calls _ _ HS.out).mono ?_; rintro e w' ⟨rfl, rfl⟩))
    go_ret
    exact ⟨by rw [HF.out]; rfl, HB0.out⟩

end Go.Proofs.YtcidccifnaecaaaDoor

