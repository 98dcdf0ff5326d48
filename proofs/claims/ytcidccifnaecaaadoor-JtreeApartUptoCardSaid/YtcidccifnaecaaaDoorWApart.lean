/- The walk of JtreeApart: true, where the trees' texts are short. -/
import Derived.Test.YtcidccifnaecaaaDoorWParts
import Derived.Test.YtcidccifnaecaaaDoorPsame
import Derived.Test.YtcidccifnaecaaaDoorApC
namespace Go.Proofs.YtcidccifnaecaaaDoor
open Go.RowKit Go.Sort

theorem apart_E {t u : Tree} (ht : rightE t = true) (hu : rightE u = true) : ((⟨(T 100 t []).toArray⟩ : ByteArray).toList == (⟨(T 100 u []).toArray⟩ : ByteArray).toList) = t.same u := by
  have h1 : exprK t.op = true ∧ fitsB 100 t = true := by simpa [rightE] using ht
  have h2 : exprK u.op = true ∧ fitsB 100 u = true := by simpa [rightE] using hu
  have h3 := expr_apart h1.2 h1.1 h2.2 h2.1
  have e : ∀ l : List UInt8, (⟨l.toArray⟩ : ByteArray).toList = l := fun l => by rw [ByteArray.toList_eq]
  rw [e, e]
  cases hs : t.same u with
  | true => rw [h3.2 hs]; simp
  | false =>
    rw [beq_eq_false_iff_ne]
    intro h4
    rw [h3.1 h4] at hs
    cases hs
theorem apart_B {t u : Tree} (ht : rightB t = true) (hu : rightB u = true) : ((⟨(linesP t).toArray⟩ : ByteArray).toList == (⟨(linesP u).toArray⟩ : ByteArray).toList) = t.same u := by
  have h1 : t.op = 32 ∧ fitsB 100 t = true := by simpa [rightB] using ht
  have h2 : u.op = 32 ∧ fitsB 100 u = true := by simpa [rightB] using hu
  have h3 := prog_apart h1.2 h1.1 h2.2 h2.1
  have e : ∀ l : List UInt8, (⟨l.toArray⟩ : ByteArray).toList = l := fun l => by rw [ByteArray.toList_eq]
  rw [e, e]
  cases hs : t.same u with
  | true => rw [h3.2 hs]; simp
  | false =>
    rw [beq_eq_false_iff_ne]
    intro h4
    rw [h3.1 h4] at hs
    cases hs

theorem right_exprA {t : Tree} (hr : rightE t = true) (hw : t.wt ≤ 68719476736) : ExprT 100 t ⟨#[]⟩ := by
  have hr' : exprK t.op = true ∧ fitsB 100 t = true := by simpa [rightE] using hr
  exact (allT 100).expr t _ hr'.2 hr'.1 ⟨hw, by decide⟩

set_option maxRecDepth 100000 in
set_option maxHeartbeats 8000000 in
theorem wapart (w : World) (v : Value) (t : Tree) (hv : TreeArg w v t) (hwt : t.wt ≤ 34359738368) (v' : Value) (u : Tree) (hv' : TreeArg w v' u) (hwu : u.wt ≤ 34359738368) (hl : Laid w) :
    Calls Tryd.prog 8 #[v, v'] w fun e w' => e = .returned (.bool true) ∧ Below w.heap.size w w' := by
  obtain ⟨d, sl, rfl, hk, hok⟩ := hv
  obtain ⟨_, A, c, rfl⟩ := hk.form
  obtain ⟨d', sm, rfl, hk', hok'⟩ := hv'
  obtain ⟨_, A', c', rfl⟩ := hk'.form
  have HOK := Lib.hid hok
  have HOK' := Lib.hid hok'
  have hw1 : t.wt ≤ 68719476736 := by omega
  have hw2 : u.wt ≤ 68719476736 := by omega
  have HW := Lib.hid hw1
  have HW' := Lib.hid hw2
  clear hok hok' hw1 hw2 hwt hwu
  obtain ⟨w00, hw00⟩ : ∃ w00, w.alloc (.cells #[.int .i64 t.op, .string t.s, .int .i64 t.n, .slice A t.l.length c, .int .i64 t.line] 24) = w00 := ⟨_, rfl⟩
  obtain ⟨w0, hw0⟩ : ∃ w0, w00.alloc (.cells #[.int .i64 u.op, .string u.s, .int .i64 u.n, .slice A' u.l.length c', .int .i64 u.line] 24) = w0 := ⟨_, rfl⟩
  have bx0 : Blk5 w00 w.heap.size t.op t.s t.n (.slice A t.l.length c) t.line := by rw [← hw00]; exact blk5_new _ _ _ _ _ _
  have by0 : Blk5 w0 w00.heap.size u.op u.s u.n (.slice A' u.l.length c') u.line := by rw [← hw0]; exact blk5_new _ _ _ _ _ _
  have hb00 : Below w.heap.size w w00 := by rw [← hw00]; exact (Below.refl _ _).alloc (Nat.le_refl _) _
  have hb01 : Below w00.heap.size w00 w0 := by rw [← hw0]; exact (Below.refl _ _).alloc (Nat.le_refl _) _
  have hb0 := hb00.trans (hb01.mono hb00.size)
  have HB0 := Lib.hid hb0
  have HX := Lib.hid (bx0.keep hb01)
  have HY := Lib.hid by0
  have HL := Lib.hid (hl.below hb0)
  have HK := Lib.hid (hk.below hb0)
  have HK' := Lib.hid (hk'.below hb0)
  clear hb00 hb01 hb0 hl hk hk' bx0 by0
  go_enter Tryd.func8, Tryd.ntmps8
  go_wp2_with fail
  refine (shown_calls w0 HL.out).mono ?_
  rintro e w1 ⟨rfl, hb1⟩
  have HB1 := Lib.hid hb1
  obtain ⟨c0, c1, c2, c3, c4⟩ := HX.out.keep hb1
  clear hb1
  go_wp2_with fail
  refine (small_calls d w1 t _ (HK.out.below HB1.out)).mono ?_
  rintro e w2 ⟨rfl, hb2⟩
  have HB2 := Lib.hid (HB1.out.trans (hb2.mono HB1.out.size))
  clear hb2 c0 c1 c2 c3 c4
  by_cases hs : t.small
  · rw [if_pos hs]
    obtain ⟨e0, e1, e2, e3, e4⟩ := HY.out.keep HB2.out
    go_wp2_with fail
    refine (small_calls d' w2 u _ (HK'.out.below HB2.out)).mono ?_
    rintro e w3 ⟨rfl, hb3⟩
    have HB3 := Lib.hid (HB2.out.trans (hb3.mono HB2.out.size))
    clear hb3 e0 e1 e2 e3 e4
    by_cases hs' : u.small
    · rw [if_pos hs']
      clear hs hs'
      have H1 := Lib.hid (fun w9 (hb9 : Below w0.heap.size w0 w9) => (show_calls t (fun hr x hx => ((right_lines hr HW.out).2.1 x hx).1) (fun hr => (right_lines hr HW.out).2.2) d w9 _ (HL.out.below hb9) (HK.out.below hb9) HOK.out).mono fun e w' (hq : _ ∧ _) => (⟨hq.1, hb9.trans (hq.2.mono hb9.size)⟩ : e = _ ∧ Below w0.heap.size w0 w'))
      have H2 := Lib.hid (fun w9 (hb9 : Below w0.heap.size w0 w9) => (show_calls u (fun hr x hx => ((right_lines hr HW'.out).2.1 x hx).1) (fun hr => (right_lines hr HW'.out).2.2) d' w9 _ (HL.out.below hb9) (HK'.out.below hb9) HOK'.out).mono fun e w' (hq : _ ∧ _) => (⟨hq.1, hb9.trans (hq.2.mono hb9.size)⟩ : e = _ ∧ Below w0.heap.size w0 w'))
      have H3 := Lib.hid (fun w9 (hb9 : Below w0.heap.size w0 w9) => (showExpr_calls t (fun hr => right_exprA hr HW.out) d w9 _ (HL.out.below hb9) (HK.out.below hb9) HOK.out).mono fun e w' (hq : _ ∧ _) => (⟨hq.1, hb9.trans (hq.2.mono hb9.size)⟩ : e = _ ∧ Below w0.heap.size w0 w'))
      have H4 := Lib.hid (fun w9 (hb9 : Below w0.heap.size w0 w9) => (showExpr_calls u (fun hr => right_exprA hr HW'.out) d' w9 _ (HL.out.below hb9) (HK'.out.below hb9) HOK'.out).mono fun e w' (hq : _ ∧ _) => (⟨hq.1, hb9.trans (hq.2.mono hb9.size)⟩ : e = _ ∧ Below w0.heap.size w0 w'))
      have H5 := Lib.hid (fun w9 (hb9 : Below w0.heap.size w0 w9) => (psame_calls d d' w9 t u _ _ (HK.out.below hb9) (HK'.out.below hb9)).mono fun e w' (hq : _ ∧ _) => (⟨hq.1, hb9.trans (hq.2.mono hb9.size)⟩ : e = _ ∧ Below w0.heap.size w0 w'))
      have qE : rightE t = true → rightE u = true → ((⟨(T 100 t []).toArray⟩ : ByteArray).toList == (⟨(T 100 u []).toArray⟩ : ByteArray).toList) = t.same u := apart_E
      have qB : rightB t = true → rightB u = true → ((⟨(linesP t).toArray⟩ : ByteArray).toList == (⟨(linesP u).toArray⟩ : ByteArray).toList) = t.same u := apart_B
      generalize (⟨(T 100 t []).toArray⟩ : ByteArray) = Et at H3 qE
      generalize (⟨(T 100 u []).toArray⟩ : ByteArray) = Eu at H4 qE
      generalize (⟨(linesP t).toArray⟩ : ByteArray) = Bt at H1 qB
      generalize (⟨(linesP u).toArray⟩ : ByteArray) = Bu at H2 qB
      generalize t.same u = bs at H5 qE qB
      generalize rightE t = r1 at H3 qE
      generalize rightE u = r2 at H4 qE
      generalize rightB t = r3 at H1 qB
      generalize rightB u = r4 at H2 qB
      cases r1 <;> cases r2 <;> cases r3 <;> cases r4 <;> cases bs
      all_goals
        simp only [Bool.false_eq_true, if_false, if_true, forall_const, false_implies, implies_true] at H1 H2 H3 H4 qE qB
        obtain ⟨c0, c1, c2, c3, c4⟩ := HX.out.keep HB3.out
        obtain ⟨e0, e1, e2, e3, e4⟩ := HY.out.keep HB3.out
        go_wp2_with fail
        refine (H1.out w3 HB3.out).mono ?_
        rintro e w4 ⟨rfl, hb4⟩
        have HB4 := Lib.hid hb4
        clear hb4 c0 c1 c2 c3 c4 e0 e1 e2 e3 e4
        obtain ⟨e0, e1, e2, e3, e4⟩ := HY.out.keep HB4.out
        go_wp2_with fail
        refine (H2.out w4 HB4.out).mono ?_
        rintro e w5 ⟨rfl, hb5⟩
        have HB5 := Lib.hid hb5
        clear hb5 e0 e1 e2 e3 e4
        obtain ⟨c0, c1, c2, c3, c4⟩ := HX.out.keep HB5.out
        go_wp2_with fail
        refine (H3.out w5 HB5.out).mono ?_
        rintro e w6 ⟨rfl, hb6⟩
        have HB6 := Lib.hid hb6
        clear hb6 c0 c1 c2 c3 c4
        obtain ⟨e0, e1, e2, e3, e4⟩ := HY.out.keep HB6.out
        go_wp2_with fail
        refine (H4.out w6 HB6.out).mono ?_
        rintro e w7 ⟨rfl, hb7⟩
        have HB7 := Lib.hid hb7
        clear hb7 e0 e1 e2 e3 e4
        obtain ⟨c0, c1, c2, c3, c4⟩ := HX.out.keep HB7.out
        obtain ⟨e0, e1, e2, e3, e4⟩ := HY.out.keep HB7.out
        go_wp2_with fail
        first
          | (go_ret
             exact ⟨rfl, HB0.out.trans (HB7.out.mono HB0.out.size)⟩)
          | (refine (H5.out w7 HB7.out).mono ?_
             rintro e w8 ⟨rfl, hb8⟩
             have HB8 := Lib.hid hb8
             clear hb8 c0 c1 c2 c3 c4 e0 e1 e2 e3 e4
             obtain ⟨c0, c1, c2, c3, c4⟩ := HX.out.keep HB8.out
             obtain ⟨e0, e1, e2, e3, e4⟩ := HY.out.keep HB8.out
             go_wp2_with fail
             first
               | (go_ret
                  exact ⟨rfl, HB0.out.trans (HB8.out.mono HB0.out.size)⟩)
               | (refine (H5.out w8 HB8.out).mono ?_
                  rintro e w9 ⟨rfl, hb9⟩
                  have HB9 := Lib.hid hb9
                  clear hb9
                  go_wp2
                  go_ret
                  exact ⟨rfl, HB0.out.trans (HB9.out.mono HB0.out.size)⟩))
    · rw [if_neg hs']
      go_wp2
      go_ret
      exact ⟨rfl, HB0.out.trans (HB3.out.mono HB0.out.size)⟩
  · rw [if_neg hs]
    go_wp2
    go_ret
    exact ⟨rfl, HB0.out.trans (HB2.out.mono HB0.out.size)⟩

end Go.Proofs.YtcidccifnaecaaaDoor
