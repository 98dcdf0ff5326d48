/- Are two trees alike: the document's Same, walked. -/
import Derived.Test.YtcidccifnaecaaaDoorSames
namespace Go.Proofs.YtcidccifnaecaaaDoor
open Go.RowKit

theorem bytes_ne {a b : ByteArray} (h : a ≠ b) : (a.toList == b.toList) = false := by
  rw [ByteArray.toList_eq, ByteArray.toList_eq, beq_eq_false_iff_ne]
  exact fun e => h (Go.WideShapes.bytes_inj e)

set_option maxRecDepth 100000 in
set_option maxHeartbeats 4000000 in
theorem rsame_calls (d : Nat) : ∀ (d' : Nat) (w : World) (t u : Tree) (sl sm : Value), Kids w d t.l sl → Kids w d' u.l sm →
    Calls Tryd.prog 29 #[.agg #[.int .i64 t.op, .string t.s, .int .i64 t.n, sl, .int .i64 t.line], .agg #[.int .i64 u.op, .string u.s, .int .i64 u.n, sm, .int .i64 u.line]] w
      fun e w' => e = .returned (.bool (t.same u)) ∧ Below w.heap.size w w' := by
  induction d using Nat.strongRecOn with
  | _ d ih =>
    intro d' w t u sl sm hk hk'
    have IH := Lib.hid ih
    clear ih
    obtain ⟨hl, A, c, rfl⟩ := hk.form
    obtain ⟨hl', A', c', rfl⟩ := hk'.form
    unfold maxLen at hl hl'
    have HK := Lib.hid hk
    have HK' := Lib.hid hk'
    have HE := Lib.hid (same_eq t u)
    clear hk hk'
    obtain ⟨w0, hw0⟩ : ∃ w0, w.alloc (.cells #[.int .i64 t.op, .string t.s, .int .i64 t.n, .slice A t.l.length c, .int .i64 t.line] 24) = w0 := ⟨_, rfl⟩
    obtain ⟨w1, hw1⟩ : ∃ w1, w0.alloc (.cells #[.int .i64 u.op, .string u.s, .int .i64 u.n, .slice A' u.l.length c', .int .i64 u.line] 24) = w1 := ⟨_, rfl⟩
    have bx0 : Blk5 w0 w.heap.size t.op t.s t.n (.slice A t.l.length c) t.line := by rw [← hw0]; exact blk5_new _ _ _ _ _ _
    have by1 : Blk5 w1 w0.heap.size u.op u.s u.n (.slice A' u.l.length c') u.line := by rw [← hw1]; exact blk5_new _ _ _ _ _ _
    have hb0 : Below w.heap.size w w0 := by rw [← hw0]; exact (Below.refl _ _).alloc (Nat.le_refl _) _
    have hb1 : Below w0.heap.size w0 w1 := by rw [← hw1]; exact (Below.refl _ _).alloc (Nat.le_refl _) _
    have bx1 := bx0.keep hb1
    have HB1 := Lib.hid (hb0.trans (hb1.mono hb0.size))
    have HX := Lib.hid bx1
    have HY := Lib.hid by1
    clear hb0 hb1 bx0
    obtain ⟨x0, x1, x2, x3, x4⟩ := bx1
    obtain ⟨y0, y1, y2, y3, y4⟩ := by1
    by_cases ho : t.op = u.op
    · by_cases hs : t.s = u.s
      · by_cases hn : t.n = u.n
        · by_cases hlen : t.l.length = u.l.length
          · have hob : (t.op != u.op) = false := by simp [ho]
            have hsb : (t.s.toList == u.s.toList) = true := by simp [hs]
            have hnb : (t.n != u.n) = false := by simp [hn]
            have hlb : ((t.l.length : Int) != (u.l.length : Int)) = false := by simp [hlen]
            have HS : Hid (t.same u = sames t.l u.l) := by refine Lib.hid ?_; rw [HE.out]; simp [ho, hs, hn]
            have HLEN := Lib.hid hlen
            clear ho hs hn hlen
            go_enter Tryd.func29, Tryd.ntmps29
            go_wp2
            go_loopw [5] (fun i wr => ∃ k : Nat, k ≤ t.l.length ∧ i = .int .i64 k ∧ (∀ (j : Nat) (a b : Tree), j < k → t.l[j]? = some a → u.l[j]? = some b → a.same b = true) ∧ Below w1.heap.size w1 wr) (fun i _ => t.l.length - (intOf i).toNat)
            case atStart => exact ⟨0, by omega, rfl, fun j a b hj => by omega, Below.refl _ _⟩
            case round =>
              obtain ⟨k, hkl, rfl, hal, hb⟩ := hrel
              have HAL := Lib.hid hal
              have HB := Lib.hid hb
              obtain ⟨x0, x1, x2, x3, x4⟩ := HX.out.keep hb
              obtain ⟨y0, y1, y2, y3, y4⟩ := HY.out.keep hb
              clear hal hb
              by_cases hlt : k < t.l.length
              · have hta : t.l[k]? = some t.l[k] := List.getElem?_eq_getElem hlt
                have hub : u.l[k]? = some (u.l[k]'(by have := HLEN.out; omega)) := List.getElem?_eq_getElem _
                generalize t.l[k] = a at hta
                generalize u.l[k]'(by have := HLEN.out; omega) = b at hub
                obtain ⟨p, sa, d1, hd1, rfl, hpa, hka, _⟩ := HK.out.at_ hta
                obtain ⟨q, sb, d2, hd2, rfl, hqb, hkb, _⟩ := HK'.out.at_ hub
                have hlt' : k < u.l.length := (List.getElem?_eq_some_iff.1 hub).1
                have hbw := HB1.out.trans (HB.out.mono HB1.out.size)
                obtain ⟨a0, a1, a2, a3, a4⟩ := hpa.below hbw
                obtain ⟨b0, b1, b2, b3, b4⟩ := hqb.below hbw
                have HKA := Lib.hid (hka.below hbw)
                have HKB := Lib.hid (hkb.below hbw)
                have HBW := Lib.hid hbw
                have HTA := Lib.hid hta
                have HUB := Lib.hid hub
                clear hpa hqb hka hkb hta hub hbw
                go_wp2
                go_still_tail 10, (by kernel_rfl)
                change wpList _ _ _ _ _ wr.drew
                go_wp2_with fail
                refine (IH.out d1 hd1 d2 wr.drew a b sa sb (HKA.out.below (Below.refl _ _).drew) (HKB.out.below (Below.refl _ _).drew)).mono ?_
                rintro e w' ⟨rfl, hb'⟩
                have HB' := Lib.hid (HB.out.trans (((Below.refl wr.heap.size wr).drew.trans hb').mono HB.out.size))
                clear hb' a0 a1 a2 a3 a4 b0 b1 b2 b3 b4
                cases hab : a.same b with
                | true =>
                  have HAB := Lib.hid hab
                  clear hab
                  go_wp2
                  go_roundw
                  case rel =>
                    refine ⟨k + 1, by omega, by go_num, fun j x y hj hx hy => ?_, HB'.out⟩
                    by_cases hjk : j < k
                    · exact HAL.out j x y hjk hx hy
                    · obtain rfl : j = k := by omega
                      have h1 := HTA.out
                      have h2 := HUB.out
                      rw [hx] at h1
                      rw [hy] at h2
                      injection h1 with h1
                      injection h2 with h2
                      subst h1 h2
                      exact HAB.out
                  case measure => simp [intOf]; omega
                | false =>
                  have HSF : Hid (t.same u = false) := by refine Lib.hid ?_; rw [HS.out]; exact sames_at HTA.out HUB.out hab
                  clear hab
                  go_wp2
                  go_ret
                  exact ⟨by rw [HSF.out]; rfl, HB1.out.trans (HB'.out.mono HB1.out.size)⟩
              · obtain rfl : k = t.l.length := by omega
                have hdd : decide ((t.l.length : Int) < (t.l.length : Int)) = false := by simp
                have HST : Hid (t.same u = true) := by
                  refine Lib.hid ?_
                  rw [HS.out]
                  exact sames_all HLEN.out (fun j x y hx hy => HAL.out j x y (List.getElem?_eq_some_iff.1 hx).1 hx hy)
                go_wp2
                go_ret
                exact ⟨by rw [HST.out]; rfl, HB1.out.trans (HB.out.mono HB1.out.size)⟩
          · have hf : t.same u = false := by rw [HE.out]; simp [sames_len hlen]
            have HF := Lib.hid hf
            have hob : (t.op != u.op) = false := by simp [ho]
            have hsb : (t.s.toList == u.s.toList) = true := by simp [hs]
            have hnb : (t.n != u.n) = false := by simp [hn]
            have hlb : ((t.l.length : Int) != (u.l.length : Int)) = true := by rw [bne_iff_ne]; omega
            clear hf ho hs hn hlen
            go_enter Tryd.func29, Tryd.ntmps29
            go_wp2
            go_ret
            exact ⟨by rw [HF.out]; rfl, HB1.out⟩
        · have hf : t.same u = false := by rw [HE.out]; simp [hn]
          have HF := Lib.hid hf
          have hob : (t.op != u.op) = false := by simp [ho]
          have hsb : (t.s.toList == u.s.toList) = true := by simp [hs]
          have hnb : (t.n != u.n) = true := by rw [bne_iff_ne]; exact hn
          clear hf ho hs hn
          go_enter Tryd.func29, Tryd.ntmps29
          go_wp2
          go_ret
          exact ⟨by rw [HF.out]; rfl, HB1.out⟩
      · have hf : t.same u = false := by rw [HE.out]; simp [hs]
        have HF := Lib.hid hf
        have hob : (t.op != u.op) = false := by simp [ho]
        have hsb := bytes_ne hs
        clear hf ho hs
        go_enter Tryd.func29, Tryd.ntmps29
        go_wp2
        go_ret
        exact ⟨by rw [HF.out]; rfl, HB1.out⟩
    · have hf : t.same u = false := by rw [HE.out]; simp [ho]
      have HF := Lib.hid hf
      have hob : (t.op != u.op) = true := by rw [bne_iff_ne]; exact ho
      clear hf ho
      go_enter Tryd.func29, Tryd.ntmps29
      go_wp2
      go_ret
      exact ⟨by rw [HF.out]; rfl, HB1.out⟩

end Go.Proofs.YtcidccifnaecaaaDoor
