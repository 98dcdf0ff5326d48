/- The document's all, block, function on trees, walked. -/
import Derived.Test.YtcidccifnaecaaaDoorRform
namespace Go.Proofs.YtcidccifnaecaaaDoor
open Go.RowKit

theorem count_at : ∀ {l : List Tree} {k : Nat} {u : Tree}, l[k]? = some u → u.count ≤ counts l
  | t :: ts, 0, u, h => by
    simp at h
    subst h
    simp [counts]
  | t :: ts, k + 1, u, h => by
    have := count_at (l := ts) (k := k) (u := u) (by simpa using h)
    simp only [counts]
    omega
  | [], _, _, h => by simp at h
theorem count_eq (t : Tree) : t.count = counts t.l + 1 := by cases t; simp [Tree.count, Tree.l]
theorem count_pos (t : Tree) : 1 ≤ t.count := by rw [count_eq]; omega
theorem len_counts : ∀ (l : List Tree), l.length ≤ counts l
  | [] => by simp
  | t :: ts => by
    have h1 := len_counts ts
    have h2 := count_pos t
    simp only [counts, List.length_cons]
    omega

def ExprR (h : Nat) : Prop := ∀ (d : Nat) (w : World) (t : Tree) (sl : Value), Kids w d t.l sl → t.ok → t.count ≤ 1073741824 →
  Calls Tryd.prog 48 #[.agg #[.int .i64 t.op, .string t.s, .int .i64 t.n, sl, .int .i64 t.line], .int .i64 h] w fun e w' => e = .returned (.bool (exprB h t)) ∧ Below w.heap.size w w'
def StmtR (h : Nat) : Prop := ∀ (d : Nat) (w : World) (t : Tree) (sl : Value), Kids w d t.l sl → t.ok → t.count ≤ 1073741824 →
  Calls Tryd.prog 71 #[.agg #[.int .i64 t.op, .string t.s, .int .i64 t.n, sl, .int .i64 t.line], .int .i64 h] w fun e w' => e = .returned (.bool (stmtB h t)) ∧ Below w.heap.size w w'
def BlockR (h : Nat) : Prop := ∀ (d : Nat) (w : World) (t : Tree) (sl : Value), Kids w d t.l sl → t.ok → t.count ≤ 1073741824 →
  Calls Tryd.prog 46 #[.agg #[.int .i64 t.op, .string t.s, .int .i64 t.n, sl, .int .i64 t.line], .int .i64 h] w fun e w' => e = .returned (.bool (blockB h t)) ∧ Below w.heap.size w w'
def AllR (h : Nat) : Prop := ∀ (d : Nat) (w : World) (l : List Tree) (sl : Value), Kids w d l sl → counts l ≤ 1073741824 →
  Calls Tryd.prog 73 #[sl, .int .i64 h] w fun e w' => e = .returned (.bool (allB h l)) ∧ Below w.heap.size w w'
def FunR (h : Nat) : Prop := ∀ (d : Nat) (w : World) (l : List Tree) (sl : Value), Kids w d l sl → counts l ≤ 1073741824 →
  Calls Tryd.prog 72 #[sl, .int .i64 h] w fun e w' => e = .returned (.bool (funB h l)) ∧ Below w.heap.size w w'

theorem drop_at {l : List Tree} {k : Nat} {u : Tree} (h : l[k]? = some u) : l.drop k = u :: l.drop (k + 1) := by
  obtain ⟨hi, rfl⟩ := List.getElem?_eq_some_iff.1 h
  exact List.drop_eq_getElem_cons hi

set_option maxRecDepth 100000 in
set_option maxHeartbeats 2000000 in
theorem all_step (h : Nat) (ie : ExprR h) : AllR h := by
  intro d w l sl hk hct
  obtain ⟨hlen, A, c, rfl⟩ := hk.form
  unfold maxLen at hlen
  have IE := Lib.hid ie
  have HK := Lib.hid hk
  have HCT := Lib.hid hct
  clear ie hk hct
  go_enter Tryd.func73, Tryd.ntmps73
  go_wp2
  go_loopw [5] (fun i wr => ∃ k : Nat, k ≤ l.length ∧ i = .int .i64 k ∧ allB h l = allB h (l.drop k) ∧ Below w.heap.size w wr) (fun i _ => l.length - (intOf i).toNat)
  case atStart => exact ⟨0, by omega, rfl, rfl, Below.refl _ _⟩
  case round =>
    obtain ⟨k, hkl, rfl, hal, hb⟩ := hrel
    have HAL := Lib.hid hal
    have HB := Lib.hid hb
    clear hal hb
    by_cases hlt : k < l.length
    · have hu : l[k]? = some l[k] := List.getElem?_eq_getElem hlt
      generalize l[k] = u at hu
      obtain ⟨p, su, d1, hd1, rfl, hpu, hku, huk⟩ := HK.out.at_ hu
      obtain ⟨_, A3, c3, rfl⟩ := hku.form
      have HKU := Lib.hid (hku.below HB.out)
      have HOU := Lib.hid huk
      have HCU := Lib.hid (Nat.le_trans (count_at hu) HCT.out)
      have HN : Hid (allB h l = (exprB h u && allB h (l.drop (k + 1)))) := Lib.hid (by rw [HAL.out, drop_at hu]; rfl)
      obtain ⟨a0, a1, a2, a3, a4⟩ := hpu.below HB.out
      clear hu hpu hku huk
      go_wp2_with fail
      refine (IE.out d1 wr u _ HKU.out HOU.out HCU.out).mono ?_
      rintro e w' ⟨rfl, hb'⟩
      have HB' := Lib.hid (HB.out.trans (hb'.mono HB.out.size))
      clear hb' a0 a1 a2 a3 a4
      cases hab : exprB h u with
      | true =>
        have HN' := Lib.hid (HN.out.trans (by rw [hab]; rfl : _ = allB h (l.drop (k + 1))))
        clear hab
        go_wp2
        go_roundw
        case rel => exact ⟨k + 1, by omega, by go_num, HN'.out, HB'.out⟩
        case measure => simp [intOf]; omega
      | false =>
        have HF := Lib.hid (HN.out.trans (by rw [hab]; rfl : _ = false))
        clear hab
        go_wp2
        go_ret
        exact ⟨by rw [HF.out]; rfl, HB'.out⟩
    · obtain rfl : k = l.length := by omega
      have hdd : decide ((l.length : Int) < (l.length : Int)) = false := by simp
      have HT : Hid (allB h l = true) := Lib.hid (by rw [HAL.out, List.drop_length]; rfl)
      go_wp2
      go_ret
      exact ⟨by rw [HT.out]; rfl, HB.out⟩

set_option maxRecDepth 100000 in
set_option maxHeartbeats 2000000 in
theorem block_step (h : Nat) (is_ : StmtR h) : BlockR h := by
  intro d w t sl hk hok hct
  obtain ⟨_, A, c, rfl⟩ := hk.form
  obtain ⟨w0, hw0⟩ : ∃ w0, w.alloc (.cells #[.int .i64 t.op, .string t.s, .int .i64 t.n, .slice A t.l.length c, .int .i64 t.line] 24) = w0 := ⟨_, rfl⟩
  have bx : Blk5 w0 w.heap.size t.op t.s t.n (.slice A t.l.length c) t.line := by rw [← hw0]; exact blk5_new _ _ _ _ _ _
  have hb0 : Below w.heap.size w w0 := by rw [← hw0]; exact (Below.refl _ _).alloc (Nat.le_refl _) _
  have HB0 := Lib.hid hb0
  have HI := Lib.hid (is_ d w0 t _ (hk.below hb0) hok hct)
  have hst : t.op = 32 → blockB h t = stmtB h t := fun h32 => by rw [blockB, stmtB, h32]; rfl
  obtain ⟨c0, c1, c2, c3, c4⟩ := bx
  clear hb0 hk hok hct is_
  cases h32 : (t.op == 32) with
  | false =>
    have HF : Hid (blockB h t = false) := Lib.hid (by rw [blockB, h32]; rfl)
    clear hst
    go_enter Tryd.func46, Tryd.ntmps46
    go_wp2
    go_ret
    exact ⟨by rw [HF.out]; rfl, HB0.out⟩
  | true =>
    have HT := Lib.hid (hst (by simpa using h32))
    clear hst
    go_enter Tryd.func46, Tryd.ntmps46
    go_wp2_with fail
    refine HI.out.mono ?_
    rintro e w1 ⟨rfl, hb1⟩
    have HB1 := Lib.hid hb1
    clear hb1
    go_wp2
    go_ret
    exact ⟨by rw [HT.out]; rfl, HB0.out.trans (HB1.out.mono HB0.out.size)⟩

theorem last_at {h : Nat} : ∀ {l : List Tree} {k : Nat} {u : Tree}, l[k]? = some u → k + 1 < l.length → lastB h (l.drop k) = ((u.op == 1 && exprB h u) && lastB h (l.drop (k + 1))) := by
  intro l k u hu hk
  rw [drop_at hu]
  obtain ⟨v, hv⟩ : ∃ v, l[k + 1]? = some v := ⟨_, List.getElem?_eq_getElem hk⟩
  rw [drop_at hv, lastB]
  simp
theorem last_end {h : Nat} {l : List Tree} {k : Nat} {u : Tree} (hu : l[k]? = some u) (hk : k + 1 = l.length) : lastB h (l.drop k) = blockB h u := by
  rw [drop_at hu, List.drop_eq_nil_of_le (by omega)]
  rfl

set_option maxRecDepth 100000 in
set_option maxHeartbeats 2000000 in
theorem fun_step (h : Nat) (ie : ExprR h) (ib : BlockR h) : FunR h := by
  intro d w l sl hk hct
  obtain ⟨hlen, A, c, rfl⟩ := hk.form
  unfold maxLen at hlen
  have IE := Lib.hid ie
  have IB := Lib.hid ib
  have HK := Lib.hid hk
  have HCT := Lib.hid hct
  clear ie ib hk hct
  cases h1 : decide ((l.length : Int) < 1) with
  | true =>
    have HF : Hid (funB h l = false) := Lib.hid (by rw [funB, decide_eq_false (show ¬ 1 ≤ l.length by have := of_decide_eq_true h1; omega)]; rfl)
    go_enter Tryd.func72, Tryd.ntmps72
    go_wp2
    go_ret
    exact ⟨by rw [HF.out]; rfl, Below.refl _ _⟩
  | false =>
  cases h2 : decide (201 < (l.length : Int)) with
  | true =>
    have HF : Hid (funB h l = false) := Lib.hid (by rw [funB, decide_eq_false (show ¬ l.length ≤ 201 by have := of_decide_eq_true h2; omega), Bool.and_false]; rfl)
    go_enter Tryd.func72, Tryd.ntmps72
    go_wp2
    go_ret
    exact ⟨by rw [HF.out]; rfl, Below.refl _ _⟩
  | false =>
  have hl1 : 1 ≤ l.length := by have := of_decide_eq_false h1; omega
  have hl2 : l.length ≤ 201 := by have := of_decide_eq_false h2; omega
  have HE : Hid (funB h l = lastB h l) := Lib.hid (by rw [funB, decide_eq_true hl1, decide_eq_true hl2]; rfl)
  go_enter Tryd.func72, Tryd.ntmps72
  go_wp2
  go_loopw [5] (fun i wr => ∃ k : Nat, k + 1 ≤ l.length ∧ i = .int .i64 k ∧ lastB h l = lastB h (l.drop k) ∧ Below w.heap.size w wr) (fun i _ => l.length - (intOf i).toNat)
  case atStart => exact ⟨0, by omega, rfl, rfl, Below.refl _ _⟩
  case round =>
    obtain ⟨k, hkl, rfl, hal, hb⟩ := hrel
    have HAL := Lib.hid hal
    have HB := Lib.hid hb
    clear hal hb
    have hu : l[k]? = some l[k] := List.getElem?_eq_getElem (by omega)
    generalize l[k] = u at hu
    obtain ⟨p, su, d1, hd1, rfl, hpu, hku, huk⟩ := HK.out.at_ hu
    obtain ⟨_, A3, c3, rfl⟩ := hku.form
    have HKU := Lib.hid (hku.below HB.out)
    have HOU := Lib.hid huk
    have HCU := Lib.hid (Nat.le_trans (count_at hu) HCT.out)
    have HU := Lib.hid hu
    obtain ⟨a0, a1, a2, a3, a4⟩ := hpu.below HB.out
    clear hu hpu hku huk
    by_cases hlt : k + 1 < l.length
    · have HN : Hid (lastB h l = ((u.op == 1 && exprB h u) && lastB h (l.drop (k + 1)))) := Lib.hid (HAL.out.trans (last_at HU.out hlt))
      have hdd : decide ((k : Int) < (l.length : Int) - 1) = true := by simp; omega
      cases ho : (u.op == 1) with
      | false =>
        have hob : (u.op != 1) = true := by rw [bne, ho]; rfl
        have HF := Lib.hid (HN.out.trans (by rw [ho]; rfl : _ = false))
        go_wp2
        go_ret
        exact ⟨by rw [HE.out, HF.out]; rfl, HB.out⟩
      | true =>
        have hob : (u.op != 1) = false := by rw [bne, ho]; rfl
        go_wp2_with fail
        refine (IE.out d1 wr u _ HKU.out HOU.out HCU.out).mono ?_
        rintro e w' ⟨rfl, hb'⟩
        have HB' := Lib.hid (HB.out.trans (hb'.mono HB.out.size))
        clear hb' a0 a1 a2 a3 a4
        cases hab : exprB h u with
        | true =>
          have HN' := Lib.hid (HN.out.trans (by rw [hab, ho]; rfl : _ = lastB h (l.drop (k + 1))))
          clear hab
          go_wp2
          go_roundw
          case rel => exact ⟨k + 1, by omega, by go_num, HN'.out, HB'.out⟩
          case measure => simp [intOf]; omega
        | false =>
          have HF := Lib.hid (HN.out.trans (by rw [hab, ho]; rfl : _ = false))
          clear hab
          go_wp2
          go_ret
          exact ⟨by rw [HE.out, HF.out]; rfl, HB'.out⟩
    · have hkk : k + 1 = l.length := by omega
      have HN : Hid (lastB h l = blockB h u) := Lib.hid (HAL.out.trans (last_end HU.out hkk))
      have hdd : decide ((k : Int) < (l.length : Int) - 1) = false := by simp; omega
      have hkq : (l.length : Int) - 1 = (k : Int) := by omega
      go_wp2_with fail
      refine (IB.out d1 wr u _ HKU.out HOU.out HCU.out).mono ?_
      rintro e w' ⟨rfl, hb'⟩
      have HB' := Lib.hid (HB.out.trans (hb'.mono HB.out.size))
      clear hb' a0 a1 a2 a3 a4
      go_wp2
      go_ret
      exact ⟨by rw [HE.out, HN.out]; rfl, HB'.out⟩

end Go.Proofs.YtcidccifnaecaaaDoor
