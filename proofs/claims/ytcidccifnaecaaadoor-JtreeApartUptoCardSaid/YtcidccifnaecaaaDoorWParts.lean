/- The walk of JtreeParts: true, where the tree's texts are short. -/
import Derived.Test.YtcidccifnaecaaaDoorShowW
import Derived.Test.YtcidccifnaecaaaDoorOpen
import Derived.Test.YtcidccifnaecaaaDoorTxAll
namespace Go.Proofs.YtcidccifnaecaaaDoor
open Go.RowKit Go.Sort

theorem right_lines {t : Tree} (hr : rightB t = true) (hw : t.wt ≤ 68719476736) : t.op = 32 ∧ (∀ u, u ∈ t.l → StmtT 99 u ⟨#[]⟩ ∧ fitsB 99 u = true ∧ stmtK u.op = true) ∧ (linesP t).length ≤ 140737488355328 := by
  unfold rightB at hr
  rw [Bool.and_eq_true] at hr
  have hop : t.op = 32 := by simpa using hr.1
  have hq : Low 100 t ⟨#[]⟩ := ⟨hw, by decide⟩
  obtain ⟨_, _, _, hkid⟩ := fit_open (h := 99) (by rw [hop]; rfl) hr.2
  refine ⟨hop, fun u hu => ?_, ?_⟩
  · obtain ⟨j, hj⟩ := List.getElem?_of_mem hu
    have hp := hkid j u hj
    have hst : stmtK u.op = true := by have := hp.1; simpa [partB, hop] using this
    exact ⟨(allT 99).stmt u _ hp.2 hst (hq.kid hu), hp.2, hst⟩
  · have h1 : (linesL (T 99) t.l []).length ≤ wts t.l * (1 + 2 * 99) := lines_len fun u _ => T_len 99 u []
    have h2 := wt_eq t
    have h3 : wts t.l * (1 + 2 * 99) ≤ 68719476736 * (1 + 2 * 99) := Nat.mul_le_mul_right _ (by omega)
    unfold linesP
    omega

/-- A block of one statement. -/
def oneB (u : Tree) : Tree := .node 32 ⟨#[]⟩ 0 [u] 0
theorem oneB_right {u : Tree} (hf : fitsB 99 u = true) (hs : stmtK u.op = true) : rightB (oneB u) = true := by
  have h1 : fitsB 100 (oneB u) = fitStep (fitsB 99) (oneB u) := rfl
  unfold rightB
  rw [h1]
  unfold fitStep
  have h2 : formF (oneB u).op = formF 32 := rfl
  have h3 : formF 32 = some (65, 0, 1073741824) := by decide
  rw [h2, h3]
  change ((32 : Int) == 32 && (testB 32 [] && decide ((0 : Int) ≤ ((1 : Nat) : Int)) && decide (((1 : Nat) : Int) ≤ 1073741824) && numB 32 0 && (partB 32 1 0 u.op && fitsB 99 u && true))) = true
  rw [show partB 32 1 0 u.op = stmtK u.op by simp [partB], hs, hf]
  decide
theorem oneB_lines (u : Tree) : linesP (oneB u) = T 99 u [] ++ [10] := by simp [linesP, linesL, oneB, Tree.l]
theorem oneB_ok (u : Tree) : (oneB u).ok := ⟨Nat.zero_le _, rfl, rfl⟩

set_option maxRecDepth 100000 in
set_option maxHeartbeats 4000000 in
theorem wparts (w : World) (v : Value) (t : Tree) (hv : TreeArg w v t) (hw0' : t.wt ≤ 34359738368) (hl : Laid w) :
    Calls Tryd.prog 5 #[v] w fun e w' => e = .returned (.bool true) ∧ Below w.heap.size w w' := by
  obtain ⟨d, sl, rfl, hk, hok⟩ := hv
  obtain ⟨hlen0, A, c, rfl⟩ := hk.form
  unfold maxLen at hlen0
  obtain ⟨w0, hw0⟩ : ∃ w0, w.alloc (.cells #[.int .i64 t.op, .string t.s, .int .i64 t.n, .slice A t.l.length c, .int .i64 t.line] 24) = w0 := ⟨_, rfl⟩
  have bx : Blk5 w0 w.heap.size t.op t.s t.n (.slice A t.l.length c) t.line := by rw [← hw0]; exact blk5_new _ _ _ _ _ _
  have hb0 : Below w.heap.size w w0 := by rw [← hw0]; exact (Below.refl _ _).alloc (Nat.le_refl _) _
  have HB0 := Lib.hid hb0
  have HX := Lib.hid bx
  have HL := Lib.hid (hl.below hb0)
  have HK := Lib.hid (hk.below hb0)
  have HOK := Lib.hid hok
  have HW := Lib.hid (show t.wt ≤ 68719476736 by omega)
  have HW0 := Lib.hid hw0'
  clear hb0 hl hk hok bx hw0'
  go_enter Tryd.func5, Tryd.ntmps5
  go_wp2_with fail
  refine (shown_calls w0 HL.out).mono ?_
  rintro e w1 ⟨rfl, hb1⟩
  have HB1 := Lib.hid hb1
  obtain ⟨c0, c1, c2, c3, c4⟩ := HX.out.keep hb1
  clear hb1
  go_wp2_with fail
  refine (small_calls d w1 t _ (HK.out.below HB1.out)).mono ?_
  rintro e w2 ⟨rfl, hb2⟩
  have HB2 := Lib.hid (HB1.out.trans (hb2.mono HB1.out.size))
  clear hb2 c0 c1 c2 c3 c4
  obtain ⟨c0, c1, c2, c3, c4⟩ := HX.out.keep HB2.out
  by_cases hs : t.small
  · have HS := Lib.hid hs
    rw [if_pos hs]
    clear hs
    have HSH := Lib.hid (fun w9 (hb9 : Below w0.heap.size w0 w9) => show_calls t (fun hr u hu => ((right_lines hr HW.out).2.1 u hu).1) (fun hr => (right_lines hr HW.out).2.2) d w9 _ (HL.out.below hb9) (HK.out.below hb9) HOK.out)
    have HRI := Lib.hid (fun w9 (hb9 : Below w0.heap.size w0 w9) => right_calls d w9 t _ (HL.out.below hb9) (HK.out.below hb9) HOK.out)
    cases hr : rightB t with
    | false =>
      rw [hr] at HSH HRI
      clear hr
      go_wp2_with fail
      refine (HSH.out w2 HB2.out).mono ?_
      rintro e w3 ⟨rfl, hb3⟩
      have HB3 := Lib.hid (HB2.out.trans (hb3.mono HB2.out.size))
      clear hb3 c0 c1 c2 c3 c4
      obtain ⟨c0, c1, c2, c3, c4⟩ := HX.out.keep HB3.out
      simp only [Bool.false_eq_true, if_false]
      go_wp2_with (go_at_call 19; refine (HRI.out w3 HB3.out).mono ?_; rintro e w4 ⟨rfl, hb4⟩; have HB4 := Lib.hid (HB3.out.trans (hb4.mono HB3.out.size)); clear hb4)
      go_ret
      exact ⟨rfl, HB0.out.trans (HB4.out.mono HB0.out.size)⟩
    | true =>
      have HRL := Lib.hid (right_lines hr HW.out)
      rw [hr] at HSH
      clear hr
      go_wp2_with fail
      refine (HSH.out w2 HB2.out).mono ?_
      rintro e w3 ⟨rfl, hb3⟩
      have HB3 := Lib.hid (HB2.out.trans (hb3.mono HB2.out.size))
      clear hb3 c0 c1 c2 c3 c4
      simp only [if_true]
      obtain ⟨c0, c1, c2, c3, c4⟩ := HX.out.keep HB3.out
      go_wp2
      clear c0 c1 c2 c3 c4
      go_loopw [6, 7, 8, 9] (fun s n u8 u9 wr => ∃ k : Nat, k ≤ t.l.length ∧ n = .int .i64 k ∧ s = .string ⟨(linesL (T 99) (t.l.take k) []).toArray⟩ ∧ Below w0.heap.size w0 wr) (fun _ n _ _ _ => t.l.length - (intOf n).toNat)
      case atStart => exact ⟨0, by omega, rfl, rfl, HB3.out⟩
      case round =>
        obtain ⟨k, hkl, rfl, rfl, hbw⟩ := hrel
        have HBW := Lib.hid hbw
        obtain ⟨c0, c1, c2, c3, c4⟩ := HX.out.keep hbw
        clear hbw
        by_cases hlt : k < t.l.length
        · have hu : t.l[k]? = some t.l[k] := List.getElem?_eq_getElem hlt
          generalize t.l[k] = u at hu
          obtain ⟨a, _, _, _, rfl, _, _, _⟩ := HK.out.at_ hu
          have hcap : t.l.length ≤ c := HK.out.cap (by omega)
          have hkd := HK.out.drop k (c - k) (by omega) (by omega)
          have hkt := hkd
          rw [show t.l.length - k = (t.l.drop k).length by rw [List.length_drop]] at hkt
          have hk1 := hkt.take 1 (by rw [List.length_drop]; omega)
          have hd1 : (t.l.drop k).take 1 = [u] := by
            rw [List.take_one, List.head?_drop, hu]
            rfl
          rw [hd1] at hk1
          have hru := HRL.out.2.1 u (List.mem_of_getElem? hu)
          have hNX := lines_next (R := T 99) (i := []) hu
          have hlen : (linesL (T 99) (t.l.take (k + 1)) []).length ≤ 140737488355328 := by
            have h1 := congrArg List.length (lines_split (T 99) t.l [] (k + 1))
            rw [List.length_append] at h1
            have h2 := HRL.out.2.2
            unfold linesP at h2
            omega
          rw [hNX] at hlen
          have hwt1 : (oneB u).wt ≤ 68719476736 := by
            have h1 := wt_eq t
            have h2 := wts_mem (List.mem_of_getElem? hu)
            have h3 := HW.out
            have h4 : (oneB u).wt = 4 * 0 + (Lib.itoa 0).length + 60 + (u.wt + 0) := by
              rw [wt_eq]
              rfl
            have h5 : (Lib.itoa 0).length = 1 := by
              rw [Lib.itoa, if_neg (by decide)]
              exact congrArg List.length (Lib.decDigits_one (i := 0) (by decide))
            have h6 := HW0.out
            omega
          have hsh := fun w9 (hb9 : Below w0.heap.size w0 w9) => show_calls (oneB u) (fun _ u2 hu2 => by
            obtain rfl : u2 = u := by simpa [oneB, Tree.l] using hu2
            exact hru.1) (fun hr => (right_lines hr hwt1).2.2) d w9 _ (HL.out.below hb9) (hk1.below hb9) (oneB_ok u)
          rw [oneB_right hru.2.1 hru.2.2, oneB_lines] at hsh
          have HSO := Lib.hid hsh
          have HNX := Lib.hid hNX
          have HLE := Lib.hid hlen
          clear hsh hNX hlen hwt1 hru hk1 hkt hkd hd1 hu
          have z1 : (k : Int) < (t.l.length : Int) := by omega
          have z2 : ¬ c = k := by omega
          have z3 : (k : Int) + 1 ≤ (c : Int) := by omega
          have z4 : (k : Int) ≤ (k : Int) + 1 := by omega
          have z5 : k + 1 ≤ c := by omega
          have z7 : wrap64 ((k : Int) + 1) = (k : Int) + 1 := by
            first
              | go_num
              | (unfold wrap64; omega)
          have z8 : ((k : Int) + 1).toNat - k = 1 := by omega
          go_wp2_with fail
          refine (HSO.out wr HBW.out).mono ?_
          rintro e w5 ⟨rfl, hb5⟩
          have HB5 := Lib.hid (HBW.out.trans (hb5.mono HBW.out.size))
          clear hb5 c0 c1 c2 c3 c4
          simp only [if_true]
          have hlz := HLE.out
          simp only [List.length_append, List.nil_append] at hlz
          have hz1 := bs_size (linesL (T 99) (t.l.take k) [])
          have hz2 := bs_size (T 99 u [] ++ [10])
          rw [List.length_append] at hz2
          have hNY : linesL (T 99) (t.l.take (k + 1)) [] = linesL (T 99) (t.l.take k) [] ++ (T 99 u [] ++ [10]) := by rw [HNX.out]; rfl
          have HNY := Lib.hid hNY
          clear hNY
          generalize linesL (T 99) (t.l.take k) [] = X at hlz hz1 HNY ⊢
          generalize T 99 u [] ++ [10] = Y at hz2 HNY ⊢
          generalize T 99 u [] = Y0 at hlz hz2
          have z6 : ¬ 9223372036854775807 < (⟨X.toArray⟩ : ByteArray).size + (⟨Y.toArray⟩ : ByteArray).size := by
            simp only [List.length_cons, List.length_nil] at hlz hz2
            omega
          have hXl : (⟨X.toArray⟩ : ByteArray).data.toList = X := rfl
          have hYl : (⟨Y.toArray⟩ : ByteArray).data.toList = Y := rfl
          clear hz1 hz2
          generalize (⟨X.toArray⟩ : ByteArray) = Bx at z6 hXl ⊢
          generalize (⟨Y.toArray⟩ : ByteArray) = By at z6 hYl ⊢
          have HXL := Lib.hid hXl
          have HYL := Lib.hid hYl
          clear hXl hYl
          go_wp2
          go_roundw
          case rel => exact ⟨k + 1, by omega, by go_num, by rw [HNY.out, ← HXL.out, ← HYL.out]; exact congrArg Value.string (bytes_ext (by simp)), HB5.out⟩
          case measure => simp [intOf]; omega
        · obtain rfl : k = t.l.length := by omega
          have hdd : decide ((t.l.length : Int) < (t.l.length : Int)) = false := by simp
          rw [List.take_length]
          unfold linesP
          clear HSH HRI HRL
          generalize linesL (T 99) t.l [] = Z
          generalize (⟨Z.toArray⟩ : ByteArray) = Bz
          have heq : (Bz.toList == Bz.toList) = true := by simp
          go_wp2
          go_ret
          exact ⟨by first | rfl | simp, HB0.out.trans (HBW.out.mono HB0.out.size)⟩
  · rw [if_neg hs]
    go_wp2
    go_ret
    exact ⟨rfl, HB0.out.trans (HB2.out.mono HB0.out.size)⟩

end Go.Proofs.YtcidccifnaecaaaDoor
