/- The walk of HeapChains: true. -/
import Derived.Test.YtbdkbjfaialeoaaChainsP
import Derived.StillTailTactics
namespace Go.Proofs.Ytbdkbjfaialeoaa
open Go.RowKit Go.Sort

def ChR (w : World) (hb : Nat) (k : Nat) (wr : World) : Prop := ∃ F os, ActR w hb F os k wr ∧ Keyed os

set_option maxRecDepth 100000 in
set_option maxHeartbeats 4000000 in
theorem chains_arg (w : World) (v : Value) (xs : List ActV) (hx : ActArg w v xs) :
    Calls Try.prog 7 #[v] w fun e w' => e = .returned (.bool true) ∧ Below w.heap.size w w' := by
  obtain ⟨A, c, rfl, hm, hx⟩ := hx
  have HX := Lib.hid hx
  clear hx
  unfold maxLen at hm
  go_enter Try.func7, Try.ntmps7
  go_wp2_with fail
  refine (shown_calls w).mono ?_
  rintro e w1 ⟨rfl, hB⟩
  go_wp2_with fail
  refine (new_st w w1 hB).mono ?_
  rintro e w2 ⟨rfl, F, hs, -, -⟩
  have HR : Hid (ChR w w1.heap.size 0 w2) := ⟨F, first4, ⟨hs, tied4, small4, by decide⟩, keyed4⟩
  clear hs hB
  go_wp2_with fail
  go_loopw [5] (fun i wr => ∃ k : Nat, k ≤ xs.length ∧ k ≤ 60 ∧ i = .int .i64 k ∧ ChR w w1.heap.size k wr) (fun i _ => 60 - (intOf i).toNat)
  case atStart => exact ⟨0, by omega, by omega, rfl, HR.out⟩
  case round =>
    clear HR
    obtain ⟨k, hk, hk6, rfl, F, os, hact, hkd⟩ := hrel
    have HACT := Lib.hid hact
    have HKD := Lib.hid hkd
    clear hact hkd
    by_cases hlt : k < xs.length
    · by_cases h60 : k < 60
      · have hxk : xs[k]? = some xs[k] := List.getElem?_eq_getElem hlt
        generalize xs[k] = x at hxk
        obtain ⟨a, rfl, hab, hcs⟩ := HX.out k x hxk
        have hbl : (a.add (k * 10)).block = a.block := by unfold Addr.add; split <;> rfl
        have hc := hcs.keep (W' := wr) (HACT.out.st.bel.block _ (by rw [hbl]; exact hab))
        clear hcs hxk hbl hab
        obtain ⟨c1, c2, c3, c4, c5, c6, c7, c8, c9⟩ := hc.flat
        have c0 := hc.c0
        have HKS := Lib.hid hc.hs
        clear hc
        have hd60 : decide ((k : Int) < 60) = true := by simp; omega
        cases hkd : kind0 x with
        | true =>
          have hkd' : ((IntKind.u64.wrap x.do_).tmod 3 == 0) = true := hkd
          clear hkd
          go_wp2_with fail
          refine (alloc_calls wr w1.heap.size w1.heap.size F os x.o HACT.out.st.hp HACT.out.st.hbw (by have := HACT.out.len; omega)).mono ?_
          rintro e w' ⟨rfl, hg⟩
          obtain ⟨F', hst, -, -⟩ := HACT.out.alloc x.o hg
          have HN : Hid (ChR w w1.heap.size (k + 1) w') := ⟨F', _, hst, keyed_alloc HKD.out x.o⟩
          clear hg hst c0 c1 c2 c3 c4 c5 c6 c7 c8 c9
          go_wp2
          go_roundw
          case rel => exact ⟨k + 1, by omega, by omega, by go_num, HN.out⟩
          case measure => simp [intOf]; omega
        | false =>
          have hkd' : ((IntKind.u64.wrap x.do_).tmod 3 == 0) = false := hkd
          clear hkd
          go_wp2
          go_still_tail 16, (by kernel_rfl)
          change wpList _ _ _ _ _ wr.drew
          go_wp2_with fail
          have hbd : Below wr.heap.size wr wr.drew := (Below.refl _ _).drew
          have hact := HACT.out.below hbd
          refine (hput_calls wr.drew w1.heap.size w1.heap.size F os x.p x.key x.v hact.st.hp hact.st.hbw HKS.out (hact.small.mono (by omega))).mono ?_
          rintro e w' ⟨rfl, hg⟩
          obtain ⟨F', hst, -, -⟩ := hact.put x.p x.key x.v hg
          have HN : Hid (ChR w w1.heap.size (k + 1) w') := ⟨F', _, hst, keyed_put HKD.out x.p x.key x.v HKS.out⟩
          clear hg hst c0 c1 c2 c3 c4 c5 c6 c7 c8 c9 hact hbd
          go_wp2
          go_roundw
          case rel => exact ⟨k + 1, by omega, by omega, by go_num, HN.out⟩
          case measure => simp [intOf]; omega
      · have hd60 : decide ((k : Int) < 60) = false := by simp; omega
        have HSM : Hid (Small 1000 os) := HACT.out.small.mono (by omega)
        have hol : os.length ≤ 64 := by have := HACT.out.len; omega
        have HT := Lib.hid HACT.out.tied
        have HST := Lib.hid HACT.out.st
        clear HACT HX
        obtain ⟨wa, hwa⟩ : ∃ z, z = wr := ⟨_, rfl⟩
        subst hwa
        go_wp2_with fail
        go_loopw [6] (fun i wr => ∃ p : Nat, p ≤ os.length ∧ i = .int .i64 p ∧ Below wa.heap.size wa wr) (fun i _ => os.length - (intOf i).toNat)
        case atStart => exact ⟨0, by omega, rfl, Below.refl _ _⟩
        case round =>
          obtain ⟨p, hp, rfl, hbw⟩ := hrel
          have HS2 := Lib.hid (HST.out.below hbw)
          have HW2 := Lib.hid hbw
          clear hbw
          obtain ⟨wb, hwb⟩ : ∃ z, z = wr := ⟨_, rfl⟩
          subst hwb
          by_cases hpl : p < os.length
          · obtain ⟨o, ho⟩ : ∃ o, os[p]? = some o := ⟨_, List.getElem?_eq_getElem hpl⟩
            have hpr := HT.out p o ho
            have HLESS := Lib.hid (allT_less HT.out ho)
            have hob := hobj_calls wb w1.heap.size w1.heap.size F os p HS2.out.hp
            rw [objT_nat, ho, toldO] at hob
            have HOB := Lib.hid hob
            clear hob ho
            have hge : decide ((p : Int) ≤ o.o.proto) = false := by simp; omega
            have hls : decide (o.o.proto < -1) = false := by simp; omega
            have hpp := hpr.1
            clear hpr
            go_wp2_with (go_at_call 14; refine (hlen_calls _ w1.heap.size w1.heap.size F os HS2.out.hp).mono ?_; rintro e w' ⟨rfl, rfl⟩)
            refine HOB.out.mono ?_
            rintro e wc ⟨rfl, hbc⟩
            have HS3 := Lib.hid (HS2.out.below hbc)
            have HW3 := Lib.hid (HW2.out.trans (hbc.mono HW2.out.size))
            clear hbc HOB
            go_wp2_with fail
            have bo : Blk (wc.alloc (.cells #[.int .i64 o.o.mark, .int .i64 o.o.proto, .int .i64 o.o.code, .int .i64 o.o.frame] 29)) wc.heap.size 29 #[.int .i64 o.o.mark, .int .i64 o.o.proto, .int .i64 o.o.code, .int .i64 o.o.frame] := Blk.new _ _ _
            have hbd : Below wc.heap.size wc (wc.alloc (.cells #[.int .i64 o.o.mark, .int .i64 o.o.proto, .int .i64 o.o.code, .int .i64 o.o.frame] 29)) := (Below.refl _ _).alloc (Nat.le_refl _) _
            generalize wc.alloc (.cells #[.int .i64 o.o.mark, .int .i64 o.o.proto, .int .i64 o.o.code, .int .i64 o.o.frame] 29) = wd at bo hbd ⊢
            have HS4 := Lib.hid (HS3.out.below hbd)
            have HW4 := Lib.hid (HW3.out.trans (hbd.mono HW3.out.size))
            clear hbd
            refine (hall_calls wd w1.heap.size w1.heap.size F os p HS4.out.hp HT.out (HSM.out.mono (by decide)) (by omega)).mono ?_
            rintro e we ⟨u, rfl, hu, hbe⟩
            have HS5 := Lib.hid (HS4.out.below hbe)
            have HW5 := Lib.hid (HW4.out.trans (hbe.mono HW4.out.size))
            replace bo := bo.keep (hbe.block _ bo.lt)
            obtain ⟨A2, c2, rfl⟩ := own_slice hu
            have HSL := Lib.hid (SlR.of_own hu)
            have HGET : Hid (∀ x ∈ allT os p, (getT os p x).isSome = true ∧ x.size ≤ maxLen) := fun x hx => allT_get HKD.out hx
            have hwl : (allT os p).length ≤ 64000 := by
              have h1 := allK_len HSM.out (chainT os p) []
              have h2 := chainT_len HT.out (p : Int)
              simp only [allT, allK]
              simp at h1
              omega
            clear hu hbe
            generalize allT os p = ws at HSL HGET HLESS hwl
            go_wp2_with fail
            go_loopw [10] (fun j wr => ∃ m : Nat, m ≤ ws.length ∧ j = .int .i64 m ∧ Below we.heap.size we wr) (fun j _ => ws.length - (intOf j).toNat)
            case atStart => exact ⟨0, by omega, rfl, Below.refl _ _⟩
            case round =>
              obtain ⟨m, hml, rfl, hbv⟩ := hrel
              have HS6 := Lib.hid (HS5.out.below hbv)
              have HW6 := Lib.hid (HW5.out.trans (hbv.mono HW5.out.size))
              by_cases hmt : m < ws.length
              · have hy : ws[m]? = some ws[m] := List.getElem?_eq_getElem hmt
                generalize ws[m] = y at hy
                obtain ⟨A', c', hAA, hcells⟩ := HSL.out
                injection hAA with hA1 hA2 hA3
                clear hA2 hA3
                subst hA1
                obtain ⟨b1, o1, hA', hb1, hc1⟩ := hcells m (.string y) (by simp [hy])
                subst hA'
                replace hc1 := (hbv.cell (p := ⟨b1, o1 + m, none⟩) hb1).trans hc1
                have HG1 := Lib.hid (HGET.out y (List.mem_of_getElem? hy))
                have HBV := Lib.hid hbv
                clear hcells hy hbv
                go_wp2_with fail
                refine (hget_calls wr w1.heap.size w1.heap.size F os p y HS6.out.hp HT.out HG1.out.2).mono ?_
                rintro e wf ⟨rfl, hbf⟩
                obtain ⟨vl, hvl⟩ := Option.isSome_iff_exists.1 HG1.out.1
                rw [hvl, told_some]
                have HBF := Lib.hid (HBV.out.trans (hbf.mono HBV.out.size))
                clear hbf hvl hc1
                go_wp2
                go_roundw
                case rel => exact ⟨m + 1, by omega, by go_num, HBF.out.trans (((Below.refl _ _).alloc (Nat.le_refl _) _).mono HBF.out.size)⟩
                case measure => simp [intOf]; omega
              · obtain rfl : m = ws.length := by omega
                have hd : decide ((ws.length : Int) < (ws.length : Int)) = false := by simp
                have bo2 := bo.keep (hbv.block _ bo.lt)
                have o1 := bo2.cell 1
                clear hbv bo2
                by_cases hp0 : 0 ≤ o.o.proto
                · go_wp2_with fail
                  refine (hall_calls _ w1.heap.size w1.heap.size F os o.o.proto HS6.out.hp HT.out (HSM.out.mono (by decide)) (by omega)).mono ?_
                  rintro e wg ⟨u2, rfl, hu, hbg⟩
                  obtain ⟨A3, c3, rfl⟩ := own_slice hu
                  have hll := HLESS.out
                  have HW7 := Lib.hid (HW6.out.trans (hbg.mono HW6.out.size))
                  clear hu hbg o1
                  go_wp2
                  go_roundw
                  case rel => exact ⟨p + 1, by omega, by go_num, HW7.out⟩
                  case measure => simp [intOf]; omega
                · go_wp2
                  go_roundw
                  case rel => exact ⟨p + 1, by omega, by go_num, HW6.out⟩
                  case measure => simp [intOf]; omega
          · obtain rfl : p = os.length := by omega
            have hd : decide ((os.length : Int) < (os.length : Int)) = false := by simp
            go_wp2_with (go_at_call 14; refine (hlen_calls _ w1.heap.size w1.heap.size F os HS2.out.hp).mono ?_; rintro e w' ⟨rfl, rfl⟩)
            go_ret
            exact ⟨rfl, HS2.out.bel⟩
    · obtain rfl : k = xs.length := by omega
      have hkk : decide ((xs.length : Int) < (xs.length : Int)) = false := by simp
      have HSM : Hid (Small 1000 os) := HACT.out.small.mono (by omega)
      have hol : os.length ≤ 64 := by have := HACT.out.len; omega
      have HT := Lib.hid HACT.out.tied
      have HST := Lib.hid HACT.out.st
      clear HACT HX
      obtain ⟨wa, hwa⟩ : ∃ z, z = wr := ⟨_, rfl⟩
      subst hwa
      go_wp2_with fail
      go_loopw [6] (fun i wr => ∃ p : Nat, p ≤ os.length ∧ i = .int .i64 p ∧ Below wa.heap.size wa wr) (fun i _ => os.length - (intOf i).toNat)
      case atStart => exact ⟨0, by omega, rfl, Below.refl _ _⟩
      case round =>
        obtain ⟨p, hp, rfl, hbw⟩ := hrel
        have HS2 := Lib.hid (HST.out.below hbw)
        have HW2 := Lib.hid hbw
        clear hbw
        obtain ⟨wb, hwb⟩ : ∃ z, z = wr := ⟨_, rfl⟩
        subst hwb
        by_cases hpl : p < os.length
        · obtain ⟨o, ho⟩ : ∃ o, os[p]? = some o := ⟨_, List.getElem?_eq_getElem hpl⟩
          have hpr := HT.out p o ho
          have HLESS := Lib.hid (allT_less HT.out ho)
          have hob := hobj_calls wb w1.heap.size w1.heap.size F os p HS2.out.hp
          rw [objT_nat, ho, toldO] at hob
          have HOB := Lib.hid hob
          clear hob ho
          have hge : decide ((p : Int) ≤ o.o.proto) = false := by simp; omega
          have hls : decide (o.o.proto < -1) = false := by simp; omega
          have hpp := hpr.1
          clear hpr
          go_wp2_with (go_at_call 14; refine (hlen_calls _ w1.heap.size w1.heap.size F os HS2.out.hp).mono ?_; rintro e w' ⟨rfl, rfl⟩)
          refine HOB.out.mono ?_
          rintro e wc ⟨rfl, hbc⟩
          have HS3 := Lib.hid (HS2.out.below hbc)
          have HW3 := Lib.hid (HW2.out.trans (hbc.mono HW2.out.size))
          clear hbc HOB
          go_wp2_with fail
          have bo : Blk (wc.alloc (.cells #[.int .i64 o.o.mark, .int .i64 o.o.proto, .int .i64 o.o.code, .int .i64 o.o.frame] 29)) wc.heap.size 29 #[.int .i64 o.o.mark, .int .i64 o.o.proto, .int .i64 o.o.code, .int .i64 o.o.frame] := Blk.new _ _ _
          have hbd : Below wc.heap.size wc (wc.alloc (.cells #[.int .i64 o.o.mark, .int .i64 o.o.proto, .int .i64 o.o.code, .int .i64 o.o.frame] 29)) := (Below.refl _ _).alloc (Nat.le_refl _) _
          generalize wc.alloc (.cells #[.int .i64 o.o.mark, .int .i64 o.o.proto, .int .i64 o.o.code, .int .i64 o.o.frame] 29) = wd at bo hbd ⊢
          have HS4 := Lib.hid (HS3.out.below hbd)
          have HW4 := Lib.hid (HW3.out.trans (hbd.mono HW3.out.size))
          clear hbd
          refine (hall_calls wd w1.heap.size w1.heap.size F os p HS4.out.hp HT.out (HSM.out.mono (by decide)) (by omega)).mono ?_
          rintro e we ⟨u, rfl, hu, hbe⟩
          have HS5 := Lib.hid (HS4.out.below hbe)
          have HW5 := Lib.hid (HW4.out.trans (hbe.mono HW4.out.size))
          replace bo := bo.keep (hbe.block _ bo.lt)
          obtain ⟨A2, c2, rfl⟩ := own_slice hu
          have HSL := Lib.hid (SlR.of_own hu)
          have HGET : Hid (∀ x ∈ allT os p, (getT os p x).isSome = true ∧ x.size ≤ maxLen) := fun x hx => allT_get HKD.out hx
          have hwl : (allT os p).length ≤ 64000 := by
            have h1 := allK_len HSM.out (chainT os p) []
            have h2 := chainT_len HT.out (p : Int)
            simp only [allT, allK]
            simp at h1
            omega
          clear hu hbe
          generalize allT os p = ws at HSL HGET HLESS hwl
          go_wp2_with fail
          go_loopw [10] (fun j wr => ∃ m : Nat, m ≤ ws.length ∧ j = .int .i64 m ∧ Below we.heap.size we wr) (fun j _ => ws.length - (intOf j).toNat)
          case atStart => exact ⟨0, by omega, rfl, Below.refl _ _⟩
          case round =>
            obtain ⟨m, hml, rfl, hbv⟩ := hrel
            have HS6 := Lib.hid (HS5.out.below hbv)
            have HW6 := Lib.hid (HW5.out.trans (hbv.mono HW5.out.size))
            by_cases hmt : m < ws.length
            · have hy : ws[m]? = some ws[m] := List.getElem?_eq_getElem hmt
              generalize ws[m] = y at hy
              obtain ⟨A', c', hAA, hcells⟩ := HSL.out
              injection hAA with hA1 hA2 hA3
              clear hA2 hA3
              subst hA1
              obtain ⟨b1, o1, hA', hb1, hc1⟩ := hcells m (.string y) (by simp [hy])
              subst hA'
              replace hc1 := (hbv.cell (p := ⟨b1, o1 + m, none⟩) hb1).trans hc1
              have HG1 := Lib.hid (HGET.out y (List.mem_of_getElem? hy))
              have HBV := Lib.hid hbv
              clear hcells hy hbv
              go_wp2_with fail
              refine (hget_calls wr w1.heap.size w1.heap.size F os p y HS6.out.hp HT.out HG1.out.2).mono ?_
              rintro e wf ⟨rfl, hbf⟩
              obtain ⟨vl, hvl⟩ := Option.isSome_iff_exists.1 HG1.out.1
              rw [hvl, told_some]
              have HBF := Lib.hid (HBV.out.trans (hbf.mono HBV.out.size))
              clear hbf hvl hc1
              go_wp2
              go_roundw
              case rel => exact ⟨m + 1, by omega, by go_num, HBF.out.trans (((Below.refl _ _).alloc (Nat.le_refl _) _).mono HBF.out.size)⟩
              case measure => simp [intOf]; omega
            · obtain rfl : m = ws.length := by omega
              have hd : decide ((ws.length : Int) < (ws.length : Int)) = false := by simp
              have bo2 := bo.keep (hbv.block _ bo.lt)
              have o1 := bo2.cell 1
              clear hbv bo2
              by_cases hp0 : 0 ≤ o.o.proto
              · go_wp2_with fail
                refine (hall_calls _ w1.heap.size w1.heap.size F os o.o.proto HS6.out.hp HT.out (HSM.out.mono (by decide)) (by omega)).mono ?_
                rintro e wg ⟨u2, rfl, hu, hbg⟩
                obtain ⟨A3, c3, rfl⟩ := own_slice hu
                have hll := HLESS.out
                have HW7 := Lib.hid (HW6.out.trans (hbg.mono HW6.out.size))
                clear hu hbg o1
                go_wp2
                go_roundw
                case rel => exact ⟨p + 1, by omega, by go_num, HW7.out⟩
                case measure => simp [intOf]; omega
              · go_wp2
                go_roundw
                case rel => exact ⟨p + 1, by omega, by go_num, HW6.out⟩
                case measure => simp [intOf]; omega
        · obtain rfl : p = os.length := by omega
          have hd : decide ((os.length : Int) < (os.length : Int)) = false := by simp
          go_wp2_with (go_at_call 14; refine (hlen_calls _ w1.heap.size w1.heap.size F os HS2.out.hp).mono ?_; rintro e w' ⟨rfl, rfl⟩)
          go_ret
          exact ⟨rfl, HS2.out.bel⟩

end Go.Proofs.Ytbdkbjfaialeoaa
