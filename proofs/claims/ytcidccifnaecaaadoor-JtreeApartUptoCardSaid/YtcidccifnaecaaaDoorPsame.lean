/- Are two trees alike: the program's Same, walked. -/
import Derived.Test.YtcidccifnaecaaaDoorRsame
namespace Go.Proofs.YtcidccifnaecaaaDoor
open Go.RowKit

def SameAt (d : Nat) : Prop := ∀ (d' : Nat) (w : World) (t u : Tree) (sl sm : Value), Kids w d t.l sl → Kids w d' u.l sm →
    Calls Tryd.prog 28 #[.agg #[.int .i64 t.op, .string t.s, .int .i64 t.n, sl, .int .i64 t.line], .agg #[.int .i64 u.op, .string u.s, .int .i64 u.n, sm, .int .i64 u.line]] w
      fun e w' => e = .returned (.bool (t.same u)) ∧ Below w.heap.size w w'

set_option maxRecDepth 100000 in
set_option maxHeartbeats 4000000 in
theorem equal_calls (d : Nat) (ih : ∀ d1, d1 < d → SameAt d1) (d' : Nat) (w : World) (l m : List Tree) (vl vm : Value) (hk : Kids w d l vl) (hk' : Kids w d' m vm) :
    Calls Tryd.prog 53 #[vl, vm, .func (.func 28) #[] #[]] w
      fun e w' => e = .returned (.bool (sames l m)) ∧ Below w.heap.size w w' := by
  have IH := Lib.hid ih
  clear ih
  obtain ⟨hl, A, c, rfl⟩ := hk.form
  obtain ⟨hl', A', c', rfl⟩ := hk'.form
  unfold maxLen at hl hl'
  have HK := Lib.hid hk
  have HK' := Lib.hid hk'
  clear hk hk'
  by_cases hlen : l.length = m.length
  · have hlb : ((l.length : Int) != (m.length : Int)) = false := by simp [hlen]
    have HLEN := Lib.hid hlen
    clear hlen
    go_enter Tryd.func53, Tryd.ntmps53
    go_wp2
    go_loopw [17] (fun i wr => ∃ k : Nat, k ≤ l.length ∧ i = .int .i64 k ∧ (∀ (j : Nat) (a b : Tree), j < k → l[j]? = some a → m[j]? = some b → a.same b = true) ∧ Below w.heap.size w wr) (fun i _ => l.length - (intOf i).toNat)
    case atStart => exact ⟨0, by omega, rfl, fun j a b hj => by omega, Below.refl _ _⟩
    case round =>
      obtain ⟨k, hkl, rfl, hal, hb⟩ := hrel
      have HAL := Lib.hid hal
      have HB := Lib.hid hb
      clear hal hb
      by_cases hlt : k < l.length
      · have hta : l[k]? = some l[k] := List.getElem?_eq_getElem hlt
        have hub : m[k]? = some (m[k]'(by have := HLEN.out; omega)) := List.getElem?_eq_getElem _
        generalize l[k] = a at hta
        generalize m[k]'(by have := HLEN.out; omega) = b at hub
        obtain ⟨p, sa, d1, hd1, rfl, hpa, hka, _⟩ := HK.out.at_ hta
        obtain ⟨q, sb, d2, hd2, rfl, hqb, hkb, _⟩ := HK'.out.at_ hub
        obtain ⟨_, A3, c3, rfl⟩ := hka.form
        obtain ⟨_, A4, c4, rfl⟩ := hkb.form
        have hlt' : k < m.length := (List.getElem?_eq_some_iff.1 hub).1
        have HPA := Lib.hid (hpa.below HB.out)
        have HQB := Lib.hid (hqb.below HB.out)
        have HKA := Lib.hid (hka.below HB.out)
        have HKB := Lib.hid (hkb.below HB.out)
        have HTA := Lib.hid hta
        have HUB := Lib.hid hub
        obtain ⟨a0, a1, a2, a3, a4⟩ := HPA.out
        obtain ⟨b0, b1, b2, b3, b4⟩ := HQB.out
        have hqlt := World.block_lt_of_cell? _ _ b0
        have hqlt' : (q.add (k * 5)).block < wr.heap.size + 1 := by omega
        clear hpa hqb hka hkb hta hub
        go_wp2_with fail
        have hw2 : Below wr.heap.size wr ((wr.alloc (.cells #[.int .i64 a.op, .string a.s, .int .i64 a.n, .slice A3 a.l.length c3, .int .i64 a.line] 24)).alloc (.cells #[.int .i64 b.op, .string b.s, .int .i64 b.n, .slice A4 b.l.length c4, .int .i64 b.line] 24)) := ((Below.refl _ _).alloc (Nat.le_refl _) _).alloc (by simp) _
        generalize (wr.alloc (.cells #[.int .i64 a.op, .string a.s, .int .i64 a.n, .slice A3 a.l.length c3, .int .i64 a.line] 24)).alloc (.cells #[.int .i64 b.op, .string b.s, .int .i64 b.n, .slice A4 b.l.length c4, .int .i64 b.line] 24) = w2 at hw2 ⊢
        clear a0 a1 a2 a3 a4 b0 b1 b2 b3 b4 hqlt hqlt'
        refine (IH.out d1 hd1 d2 w2 a b (.slice A3 a.l.length c3) (.slice A4 b.l.length c4) (HKA.out.below hw2) (HKB.out.below hw2)).mono ?_
        rintro e w' ⟨rfl, hb'⟩
        have HB' := Lib.hid (HB.out.trans ((hw2.trans (hb'.mono hw2.size)).mono HB.out.size))
        clear hb' hw2
        cases hab : a.same b with
        | true =>
          have HAB := Lib.hid hab
          clear hab
          go_wp2
          go_roundw
          case rel =>
            refine ⟨k + 1, by omega, by go_num, fun j x y hj hx hy => ?_, HB'.out⟩
            by_cases hjk : j < k
            · exact HAL.out j x y hjk hx hy
            · obtain rfl : j = k := by omega
              have h1 := HTA.out
              have h2 := HUB.out
              rw [hx] at h1
              rw [hy] at h2
              injection h1 with h1
              injection h2 with h2
              subst h1 h2
              exact HAB.out
          case measure => simp [intOf]; omega
        | false =>
          have HSF : Hid (sames l m = false) := Lib.hid (sames_at HTA.out HUB.out hab)
          clear hab
          go_wp2
          go_ret
          exact ⟨by rw [HSF.out]; rfl, HB'.out⟩
      · obtain rfl : k = l.length := by omega
        have hdd : decide ((l.length : Int) < (l.length : Int)) = false := by simp
        have HST : Hid (sames l m = true) := Lib.hid (sames_all HLEN.out (fun j x y hx hy => HAL.out j x y (List.getElem?_eq_some_iff.1 hx).1 hx hy))
        go_wp2
        go_ret
        exact ⟨by rw [HST.out]; rfl, HB.out⟩
  · have hlb : ((l.length : Int) != (m.length : Int)) = true := by rw [bne_iff_ne]; omega
    have HSF := Lib.hid (sames_len hlen)
    clear hlen
    go_enter Tryd.func53, Tryd.ntmps53
    go_wp2
    go_ret
    exact ⟨by rw [HSF.out]; rfl, Below.refl _ _⟩

set_option maxRecDepth 100000 in
set_option maxHeartbeats 4000000 in
theorem psame_calls (d : Nat) : SameAt d := by
  induction d using Nat.strongRecOn with
  | _ d ih =>
    intro d' w t u sl sm hk hk'
    have IH := Lib.hid ih
    clear ih
    obtain ⟨hl, A, c, rfl⟩ := hk.form
    obtain ⟨hl', A', c', rfl⟩ := hk'.form
    clear hl hl'
    have HE := Lib.hid (same_eq t u)
    obtain ⟨w0, hw0⟩ : ∃ w0, w.alloc (.cells #[.int .i64 t.op, .string t.s, .int .i64 t.n, .slice A t.l.length c, .int .i64 t.line] 24) = w0 := ⟨_, rfl⟩
    obtain ⟨w1, hw1⟩ : ∃ w1, w0.alloc (.cells #[.int .i64 u.op, .string u.s, .int .i64 u.n, .slice A' u.l.length c', .int .i64 u.line] 24) = w1 := ⟨_, rfl⟩
    have bx0 : Blk5 w0 w.heap.size t.op t.s t.n (.slice A t.l.length c) t.line := by rw [← hw0]; exact blk5_new _ _ _ _ _ _
    have by1 : Blk5 w1 w0.heap.size u.op u.s u.n (.slice A' u.l.length c') u.line := by rw [← hw1]; exact blk5_new _ _ _ _ _ _
    have hb0 : Below w.heap.size w w0 := by rw [← hw0]; exact (Below.refl _ _).alloc (Nat.le_refl _) _
    have hb1 : Below w0.heap.size w0 w1 := by rw [← hw1]; exact (Below.refl _ _).alloc (Nat.le_refl _) _
    have bx1 := bx0.keep hb1
    have HB1 := Lib.hid (hb0.trans (hb1.mono hb0.size))
    have HK := Lib.hid (hk.below HB1.out)
    have HK' := Lib.hid (hk'.below HB1.out)
    clear hb0 hb1 bx0 hk hk'
    obtain ⟨x0, x1, x2, x3, x4⟩ := bx1
    obtain ⟨y0, y1, y2, y3, y4⟩ := by1
    by_cases ho : t.op = u.op
    · by_cases hs : t.s = u.s
      · by_cases hn : t.n = u.n
        · have hob : (t.op == u.op) = true := by simp [ho]
          have hsb : (t.s.toList == u.s.toList) = true := by simp [hs]
          have hnb : (t.n == u.n) = true := by simp [hn]
          have HS : Hid (t.same u = sames t.l u.l) := by refine Lib.hid ?_; rw [HE.out]; simp [ho, hs, hn]
          clear ho hs hn
          go_enter Tryd.func28, Tryd.ntmps28
          go_wp2_with (go_at_call 53; refine (equal_calls d IH.out d' w1 t.l u.l _ _ HK.out HK'.out).mono ?_; rintro e w' ⟨rfl, hb'⟩; have HB' := Lib.hid hb'; clear hb')
          go_ret
          exact ⟨by rw [HS.out]; simp, HB1.out.trans (HB'.out.mono HB1.out.size)⟩
        · have hf : t.same u = false := by rw [HE.out]; simp [hn]
          have HF := Lib.hid hf
          have hob : (t.op == u.op) = true := by simp [ho]
          have hsb : (t.s.toList == u.s.toList) = true := by simp [hs]
          have hnb : (t.n == u.n) = false := by simp [hn]
          clear ho hs hn hf
          go_enter Tryd.func28, Tryd.ntmps28
          go_wp2
          go_ret
          exact ⟨by rw [HF.out]; rfl, HB1.out⟩
      · have hf : t.same u = false := by rw [HE.out]; simp [hs]
        have HF := Lib.hid hf
        have hob : (t.op == u.op) = true := by simp [ho]
        have hsb := bytes_ne hs
        clear ho hs hf
        go_enter Tryd.func28, Tryd.ntmps28
        go_wp2
        go_ret
        exact ⟨by rw [HF.out]; rfl, HB1.out⟩
    · have hf : t.same u = false := by rw [HE.out]; simp [ho]
      have HF := Lib.hid hf
      have hob : (t.op == u.op) = false := by simp [ho]
      clear ho hf
      go_enter Tryd.func28, Tryd.ntmps28
      go_wp2
      go_ret
      exact ⟨by rw [HF.out]; rfl, HB1.out⟩

end Go.Proofs.YtcidccifnaecaaaDoor
