/- The walk of HeapDoes: true. -/
import Derived.Test.YtbdkbjfaialeoaaDid
import Derived.Test.YtbdkbjfaialeoaaCallsA
import Derived.Test.YtbdkbjfaialeoaaKeeps
import Derived.Deep.QuietTactic
namespace Go.Proofs.Ytbdkbjfaialeoaa
open Go.RowKit Go.Sort

theorem quiet_left {P : Program} {f : FuncId} {args : Array Value} {w : World} {n : Nat} {v : Value}
    (h : Calls P f args (w.drewN n) fun e w' => e = .returned v ∧ w.drewN n = w') : Calls P f args (w.drewN n) fun e w' => e = .returned v ∧ ∃ m, w' = w.drewN m :=
  h.mono fun _ _ ⟨he, hm⟩ => ⟨he, n, hm.symm⟩

theorem RHp.lower {w : World} {B B' rb : Nat} {F : Nat → Prop} {os : List Ob} (h : RHp w B rb F os) (hB : B' ≤ B) : RHp w B' rb F os := by
  obtain ⟨lv, Ls, h1, h2⟩ := h
  refine ⟨lv, Ls, ⟨h1.blk, own_mono h1.row (fun g hg => Nat.le_trans hB (h1.row.lt g hg).1), h1.len, fun i L o hL ho => ?_, h1.apart, Nat.le_trans hB h1.low⟩, h2⟩
  have hO := h1.obj i L o hL ho
  exact ⟨own_mono hO.krow (fun g hg => Nat.le_trans hB (hO.krow.lt g hg).1), own_mono hO.vrow (fun g hg => Nat.le_trans hB (hO.vrow.lt g hg).1), hO.nodup, hO.has⟩

/-- Both heaps, between two acts. -/
structure DoR (w : World) (hb rb : Nat) (F G : Nat → Prop) (os : List Ob) (k : Nat) (wr : World) : Prop where
  duo : Duo wr hb hb rb F G os os
  tied : Tied os
  small : Small (2 + k) os
  len : os.length ≤ 4 + k
  bel : Below w.heap.size w wr
  low : ∀ j, F j ∨ G j → w.heap.size ≤ j
  hbw : hb ≤ wr.heap.size
theorem DoR.below {w wr w' : World} {hb rb k : Nat} {F G : Nat → Prop} {os : List Ob} (h : DoR w hb rb F G os k wr) (hb' : Below wr.heap.size wr w') : DoR w hb rb F G os k w' :=
  ⟨h.duo.below hb', h.tied, h.small, h.len, h.bel.trans (hb'.mono h.bel.size), h.low, Nat.le_trans h.hbw hb'.size⟩
theorem DoR.step {w wr w' : World} {hb rb k : Nat} {F G : Nat → Prop} {os : List Ob} (h : DoR w hb rb F G os k wr) (x : ActV) (hg : DuoGrew wr hb hb rb F G (actD os x) (actD os x) w') : ∃ F' G', DoR w hb rb F' G' (actD os x) (k + 1) w' := by
  obtain ⟨F', G', h1, h2, h3⟩ := hg
  refine ⟨F', G', h1, ?_, ?_, ?_, h.bel.trans (h2.below h.bel.size h.low), fun j hj => ?_, Nat.le_trans h.hbw h2.size⟩
  · unfold actD
    split
    · exact tied_alloc h.tied _
    · split
      · exact tied_put h.tied _ _ _
      · exact h.tied
  · unfold actD
    split
    · exact (small_alloc h.small _).mono (by omega)
    · split
      · exact small_put h.small _ _ _
      · exact h.small.mono (by omega)
  · have := h.len
    unfold actD
    split
    · have := (allocT_len os x.o).2; omega
    · split
      · have := putT_len os x.p x.key x.v; omega
      · omega
  · rcases h3 j hj with e | e
    · exact h.low j e
    · exact Nat.le_trans h.bel.size e
theorem toldO_form (o : Option Ob) : ∃ m p c f e, toldO o = .tuple #[.agg #[.int .i64 m, .int .i64 p, .int .i64 c, .int .i64 f], .int .i64 e] := by
  cases o with
  | none => exact ⟨_, _, _, _, _, rfl⟩
  | some o => exact ⟨_, _, _, _, _, rfl⟩
theorem ActCells.whole {W : World} {q : Addr} {x : ActV} (h : ActCells W q x) :
    W.cell? ⟨q.block, q.off + 1, none⟩ = some (.int .i64 x.p) ∧ W.cell? ⟨q.block, q.off + 2, none⟩ = some (.int .i64 x.o.mark) ∧ W.cell? ⟨q.block, q.off + 3, none⟩ = some (.int .i64 x.o.proto) ∧ W.cell? ⟨q.block, q.off + 4, none⟩ = some (.int .i64 x.o.code) ∧
    W.cell? ⟨q.block, q.off + 5, none⟩ = some (.int .i64 x.o.frame) ∧ W.cell? ⟨q.block, q.off + 6, none⟩ = some (.string x.key) ∧ W.cell? ⟨q.block, q.off + 7, none⟩ = some (.int .i64 x.v.kind) ∧ W.cell? ⟨q.block, q.off + 8, none⟩ = some (.int .i64 x.v.n) ∧ W.cell? ⟨q.block, q.off + 9, none⟩ = some (.string x.v.s) :=
  ⟨h.c1, h.c2, h.c3, h.c4, h.c5, h.c6, h.c7, h.c8, h.c9⟩

theorem keysT_len {os : List Ob} {p : Int} (h : Small 1000 os) : (keysT os p).length ≤ maxLen := by
  unfold keysT
  cases ho : objT os p with
  | none => simp [maxLen]
  | some o =>
    have hm : o ∈ os := by
      unfold objT at ho
      split at ho
      · exact List.mem_of_getElem? ho
      · cases ho
    have := h o hm
    simp only [Option.map_some, Option.getD_some, maxLen]
    omega
theorem allT_len {os : List Ob} (hT : Tied os) (h : Small 1000 os) (p : Int) (hl : os.length ≤ 64) : (allT os p).length ≤ maxLen := by
  have h1 := allK_len h (chainT os p) []
  have h2 := chainT_len hT p
  simp only [allT, allK, maxLen]
  simp at h1
  omega

set_option maxRecDepth 100000 in
set_option maxHeartbeats 4000000 in
theorem does_arg (w : World) (v : Value) (xs : List ActV) (hx : ActArg w v xs) :
    Calls Try.prog 9 #[v] w fun e w' => e = .returned (.bool true) ∧ Below w.heap.size w w' := by
  obtain ⟨A, c, rfl, hm, hx⟩ := hx
  have HX := Lib.hid hx
  clear hx
  unfold maxLen at hm
  go_enter Try.func9, Try.ntmps9
  go_wp2_with fail
  refine (shown_calls w).mono ?_
  rintro e w1 ⟨rfl, hB⟩
  go_wp2_with fail
  refine (new_st w w1 hB).mono ?_
  rintro e w2 ⟨rfl, F, hs, -, -⟩
  have HS := Lib.hid hs
  clear hs hB
  go_wp2_with fail
  refine (rnew_calls w2).mono ?_
  rintro e w3 ⟨rfl, G, hr, hb3, hG⟩
  have HR : Hid (∃ F G os, DoR w w1.heap.size w2.heap.size F G os 0 w3) := ⟨F, G, first4, ⟨HS.out.hp.below hb3, hr.lower HS.out.hbw, fun k hk hk' => by have := (HS.out.hp.foot k hk).2; have := hG k hk'; omega⟩, tied4, small4, by decide,
    HS.out.bel.trans (hb3.mono HS.out.bel.size), fun j hj => hj.elim (HS.out.low j) (fun e => Nat.le_trans HS.out.bel.size (hG j e)), Nat.le_trans HS.out.hbw hb3.size⟩
  clear hr hb3 hG HS
  go_wp2_with fail
  go_loopw [6] (fun i wr => ∃ k : Nat, k ≤ xs.length ∧ k ≤ 60 ∧ i = .int .i64 k ∧ ∃ F G os, DoR w w1.heap.size w2.heap.size F G os k wr) (fun i _ => 60 - (intOf i).toNat)
  case atStart => exact ⟨0, by omega, by omega, rfl, HR.out⟩
  case round =>
    clear HR
    obtain ⟨k, hk, hk6, rfl, F, G, os, hdo⟩ := hrel
    have HDO := Lib.hid hdo
    clear hdo
    by_cases hlt : k < xs.length
    · by_cases h60 : k < 60
      · have hxk : xs[k]? = some xs[k] := List.getElem?_eq_getElem hlt
        generalize xs[k] = x at hxk
        obtain ⟨a, rfl, hab, hcs⟩ := HX.out k x hxk
        have hbl : (a.add (k * 10)).block = a.block := by unfold Addr.add; split <;> rfl
        have hc := hcs.keep (W' := wr) (HDO.out.bel.block _ (by rw [hbl]; exact hab))
        clear hcs hxk hbl hab
        obtain ⟨c1, c2, c3, c4, c5, c6, c7, c8, c9⟩ := hc.whole
        have c0 := hc.c0
        have HKS := Lib.hid hc.hs
        clear hc
        have hd60 : decide ((k : Int) < 60) = true := by simp; omega
        go_wp2_with fail
        refine (did_calls wr w1.heap.size w1.heap.size w2.heap.size F G os x HDO.out.duo HDO.out.hbw HDO.out.tied (HDO.out.small.mono (by omega)) (by have := HDO.out.len; omega) HKS.out).mono ?_
        rintro e w4 ⟨rfl, hg⟩
        obtain ⟨F', G', hdo'⟩ := HDO.out.step x hg
        obtain ⟨A4, cap4, hc4⟩ := hdo'.duo.rp.cell
        have hc5 := hdo'.duo.hp
        generalize actD os x = os' at hdo' hc4 hc5
        have HDO' := Lib.hid hdo'
        have HP4 := Lib.hid hc5
        clear hg hdo' hc5 c0 c1 c2 c3 c4 c5 c6 c7 c8 c9
        have HLEN : Hid (∀ n, Calls Try.prog 14 #[.pointer (some ⟨w1.heap.size, 0, none⟩)] (w4.drewN n) fun e w' => e = .returned (.int .i64 os'.length) ∧ w4.drewN n = w') := fun n => hlen_calls _ w1.heap.size w1.heap.size F' os' (HP4.out.keep (fun _ _ => rfl))
        go_wp2
        go_quiet ((go_at_call 14; exact quiet_left (HLEN.out _)))
        have HN : Hid (DoR w w1.heap.size w2.heap.size F' G' os' (k + 1) (w4.drewN nq)) := HDO'.out.below ⟨rfl, rfl, rfl, Nat.le_refl _, fun _ _ => rfl⟩
        clear HLEN HP4 hc4 HDO'
        go_wp2
        go_roundw
        case rel => exact ⟨k + 1, by omega, by omega, by go_num, F', G', os', HN.out⟩
        case measure => simp [intOf]; omega
      · have hd60 : decide ((k : Int) < 60) = false := by simp; omega
        have HSM : Hid (Small 1000 os) := HDO.out.small.mono (by omega)
        have hol : os.length ≤ 64 := by have := HDO.out.len; omega
        have HT := Lib.hid HDO.out.tied
        have HDU := Lib.hid HDO.out.duo
        have HBE := Lib.hid HDO.out.bel
        clear HDO HX
        obtain ⟨wa, hwa⟩ : ∃ z, z = wr := ⟨_, rfl⟩
        subst hwa
        go_wp2_with fail
        go_loopw [8] (fun i wr => ∃ p : Int, -1 ≤ p ∧ p ≤ os.length + 1 ∧ i = .int .i64 p ∧ Below wa.heap.size wa wr) (fun i _ => ((os.length : Int) + 1 - intOf i).toNat)
        case atStart => exact ⟨-1, by omega, by omega, rfl, Below.refl _ _⟩
        case round =>
          obtain ⟨p, hp0, hp1, rfl, hbw⟩ := hrel
          have HDW := Lib.hid (HDU.out.below hbw)
          have HW := Lib.hid hbw
          obtain ⟨A4, cap4, hc4⟩ := HDW.out.rp.cell
          clear hbw
          by_cases hpl : p ≤ os.length
          · obtain ⟨m, pr, cd, fr, er, ho⟩ := toldO_form (objT os p)
            have HO := Lib.hid ho
            clear ho
            go_wp2_with fail
            refine (hobj_calls wr w1.heap.size w1.heap.size F os p HDW.out.hp).mono ?_
            rintro e wb ⟨rfl, hb⟩
            rw [HO.out]
            have HDB := Lib.hid (HDW.out.below hb)
            have HWB := Lib.hid (HW.out.trans (hb.mono HW.out.size))
            clear hb hc4
            go_wp2_with fail
            have bo : Blk (wb.alloc (.cells #[.int .i64 m, .int .i64 pr, .int .i64 cd, .int .i64 fr] 29)) wb.heap.size 29 #[.int .i64 m, .int .i64 pr, .int .i64 cd, .int .i64 fr] := Blk.new _ _ _
            have hbc : Below wb.heap.size wb (wb.alloc (.cells #[.int .i64 m, .int .i64 pr, .int .i64 cd, .int .i64 fr] 29)) := (Below.refl _ _).alloc (Nat.le_refl _) _
            generalize wb.alloc (.cells #[.int .i64 m, .int .i64 pr, .int .i64 cd, .int .i64 fr] 29) = wc at bo hbc ⊢
            have HDC := Lib.hid (HDB.out.below hbc)
            have HWC := Lib.hid (HWB.out.trans (hbc.mono HWB.out.size))
            clear hbc
            refine (robj_calls wc w1.heap.size w2.heap.size G os p HDC.out.rp).mono ?_
            rintro e wd ⟨rfl, hb⟩
            rw [HO.out]
            have HDD := Lib.hid (HDC.out.below hb)
            have HWD := Lib.hid (HWC.out.trans (hb.mono HWC.out.size))
            replace bo := bo.keep (hb.block _ bo.lt)
            clear hb
            have o0 := bo.cell 0
            have o1 := bo.cell 1
            have o2 := bo.cell 2
            have o3 := bo.cell 3
            have ol := bo.lt
            clear bo
            go_wp2_with fail
            clear o0 o1 o2 o3 ol
            have hbe : Below wd.heap.size wd (wd.alloc (.cells #[.int .i64 m, .int .i64 pr, .int .i64 cd, .int .i64 fr] 29)) := (Below.refl _ _).alloc (Nat.le_refl _) _
            generalize wd.alloc (.cells #[.int .i64 m, .int .i64 pr, .int .i64 cd, .int .i64 fr] 29) = we at hbe ⊢
            have HDE := Lib.hid (HDD.out.below hbe)
            have HWE := Lib.hid (HWD.out.trans (hbe.mono HWD.out.size))
            clear hbe
            refine (keys_calls we w1.heap.size w1.heap.size F os p HDE.out.hp (HSM.out.mono (by decide))).mono ?_
            rintro e wf ⟨u, rfl, hu, hb⟩
            have HDF := Lib.hid (HDE.out.below hb)
            have HWF := Lib.hid (HWE.out.trans (hb.mono HWE.out.size))
            have HU := Lib.hid (SlR.of_own hu)
            clear hb hu
            go_wp2_with fail
            refine (rkeys_calls wf w1.heap.size w2.heap.size G os p HDF.out.rp).mono ?_
            rintro e w' ⟨u2, rfl, hu2, rfl⟩
            have HU2 := Lib.hid hu2
            clear hu2
            go_wp2_with fail
            refine (same_calls wf u u2 (keysT os p) (keysT os p) HU.out HU2.out (keysT_len HSM.out)).mono ?_
            rintro e wg ⟨rfl, hb⟩
            rw [show sameS (keysT os p) (keysT os p) = true from by simp [sameS]]
            have HDG := Lib.hid (HDF.out.below hb)
            have HWG := Lib.hid (HWF.out.trans (hb.mono HWF.out.size))
            clear hb HU HU2
            go_wp2_with fail
            refine (hall_calls wg w1.heap.size w1.heap.size F os p HDG.out.hp HT.out (HSM.out.mono (by decide)) (by omega)).mono ?_
            rintro e wh ⟨u3, rfl, hu, hb⟩
            have HDH := Lib.hid (HDG.out.below hb)
            have HWH := Lib.hid (HWG.out.trans (hb.mono HWG.out.size))
            have HU := Lib.hid (SlR.of_own hu)
            clear hb hu
            go_wp2_with fail
            refine (rall_calls wh w1.heap.size w2.heap.size G os p HDH.out.rp HT.out (HSM.out.mono (by decide)) (by omega)).mono ?_
            rintro e wi ⟨u4, rfl, hu, hb⟩
            have HDI := Lib.hid (HDH.out.below hb)
            have HWI := Lib.hid (HWH.out.trans (hb.mono HWH.out.size))
            have HU3 := Lib.hid (HU.out.below hb)
            have HU4 := Lib.hid (SlR.of_own hu)
            clear hb hu HU
            go_wp2_with fail
            refine (same_calls wi u3 u4 (allT os p) (allT os p) HU3.out HU4.out (allT_len HT.out HSM.out p hol)).mono ?_
            rintro e wj ⟨rfl, hb⟩
            rw [show sameS (allT os p) (allT os p) = true from by simp [sameS]]
            have HWJ := Lib.hid (HWI.out.trans (hb.mono HWI.out.size))
            clear hb HU3 HU4
            go_wp2
            go_roundw
            case rel => exact ⟨p + 1, by omega, by omega, by go_num, HWJ.out⟩
            case measure => simp [intOf]; omega
          · have hd : decide (p ≤ (os.length : Int)) = false := by simp; omega
            have HFIN := Lib.hid (HBE.out.trans (HW.out.mono HBE.out.size))
            go_wp2_with fail
            go_ret
            exact ⟨rfl, HFIN.out⟩
    · obtain rfl : k = xs.length := by omega
      have hkk : decide ((xs.length : Int) < (xs.length : Int)) = false := by simp
      have HSM : Hid (Small 1000 os) := HDO.out.small.mono (by omega)
      have hol : os.length ≤ 64 := by have := HDO.out.len; omega
      have HT := Lib.hid HDO.out.tied
      have HDU := Lib.hid HDO.out.duo
      have HBE := Lib.hid HDO.out.bel
      clear HDO HX
      obtain ⟨wa, hwa⟩ : ∃ z, z = wr := ⟨_, rfl⟩
      subst hwa
      go_wp2_with fail
      go_loopw [8] (fun i wr => ∃ p : Int, -1 ≤ p ∧ p ≤ os.length + 1 ∧ i = .int .i64 p ∧ Below wa.heap.size wa wr) (fun i _ => ((os.length : Int) + 1 - intOf i).toNat)
      case atStart => exact ⟨-1, by omega, by omega, rfl, Below.refl _ _⟩
      case round =>
        obtain ⟨p, hp0, hp1, rfl, hbw⟩ := hrel
        have HDW := Lib.hid (HDU.out.below hbw)
        have HW := Lib.hid hbw
        obtain ⟨A4, cap4, hc4⟩ := HDW.out.rp.cell
        clear hbw
        by_cases hpl : p ≤ os.length
        · obtain ⟨m, pr, cd, fr, er, ho⟩ := toldO_form (objT os p)
          have HO := Lib.hid ho
          clear ho
          go_wp2_with fail
          refine (hobj_calls wr w1.heap.size w1.heap.size F os p HDW.out.hp).mono ?_
          rintro e wb ⟨rfl, hb⟩
          rw [HO.out]
          have HDB := Lib.hid (HDW.out.below hb)
          have HWB := Lib.hid (HW.out.trans (hb.mono HW.out.size))
          clear hb hc4
          go_wp2_with fail
          have bo : Blk (wb.alloc (.cells #[.int .i64 m, .int .i64 pr, .int .i64 cd, .int .i64 fr] 29)) wb.heap.size 29 #[.int .i64 m, .int .i64 pr, .int .i64 cd, .int .i64 fr] := Blk.new _ _ _
          have hbc : Below wb.heap.size wb (wb.alloc (.cells #[.int .i64 m, .int .i64 pr, .int .i64 cd, .int .i64 fr] 29)) := (Below.refl _ _).alloc (Nat.le_refl _) _
          generalize wb.alloc (.cells #[.int .i64 m, .int .i64 pr, .int .i64 cd, .int .i64 fr] 29) = wc at bo hbc ⊢
          have HDC := Lib.hid (HDB.out.below hbc)
          have HWC := Lib.hid (HWB.out.trans (hbc.mono HWB.out.size))
          clear hbc
          refine (robj_calls wc w1.heap.size w2.heap.size G os p HDC.out.rp).mono ?_
          rintro e wd ⟨rfl, hb⟩
          rw [HO.out]
          have HDD := Lib.hid (HDC.out.below hb)
          have HWD := Lib.hid (HWC.out.trans (hb.mono HWC.out.size))
          replace bo := bo.keep (hb.block _ bo.lt)
          clear hb
          have o0 := bo.cell 0
          have o1 := bo.cell 1
          have o2 := bo.cell 2
          have o3 := bo.cell 3
          have ol := bo.lt
          clear bo
          go_wp2_with fail
          clear o0 o1 o2 o3 ol
          have hbe : Below wd.heap.size wd (wd.alloc (.cells #[.int .i64 m, .int .i64 pr, .int .i64 cd, .int .i64 fr] 29)) := (Below.refl _ _).alloc (Nat.le_refl _) _
          generalize wd.alloc (.cells #[.int .i64 m, .int .i64 pr, .int .i64 cd, .int .i64 fr] 29) = we at hbe ⊢
          have HDE := Lib.hid (HDD.out.below hbe)
          have HWE := Lib.hid (HWD.out.trans (hbe.mono HWD.out.size))
          clear hbe
          refine (keys_calls we w1.heap.size w1.heap.size F os p HDE.out.hp (HSM.out.mono (by decide))).mono ?_
          rintro e wf ⟨u, rfl, hu, hb⟩
          have HDF := Lib.hid (HDE.out.below hb)
          have HWF := Lib.hid (HWE.out.trans (hb.mono HWE.out.size))
          have HU := Lib.hid (SlR.of_own hu)
          clear hb hu
          go_wp2_with fail
          refine (rkeys_calls wf w1.heap.size w2.heap.size G os p HDF.out.rp).mono ?_
          rintro e w' ⟨u2, rfl, hu2, rfl⟩
          have HU2 := Lib.hid hu2
          clear hu2
          go_wp2_with fail
          refine (same_calls wf u u2 (keysT os p) (keysT os p) HU.out HU2.out (keysT_len HSM.out)).mono ?_
          rintro e wg ⟨rfl, hb⟩
          rw [show sameS (keysT os p) (keysT os p) = true from by simp [sameS]]
          have HDG := Lib.hid (HDF.out.below hb)
          have HWG := Lib.hid (HWF.out.trans (hb.mono HWF.out.size))
          clear hb HU HU2
          go_wp2_with fail
          refine (hall_calls wg w1.heap.size w1.heap.size F os p HDG.out.hp HT.out (HSM.out.mono (by decide)) (by omega)).mono ?_
          rintro e wh ⟨u3, rfl, hu, hb⟩
          have HDH := Lib.hid (HDG.out.below hb)
          have HWH := Lib.hid (HWG.out.trans (hb.mono HWG.out.size))
          have HU := Lib.hid (SlR.of_own hu)
          clear hb hu
          go_wp2_with fail
          refine (rall_calls wh w1.heap.size w2.heap.size G os p HDH.out.rp HT.out (HSM.out.mono (by decide)) (by omega)).mono ?_
          rintro e wi ⟨u4, rfl, hu, hb⟩
          have HDI := Lib.hid (HDH.out.below hb)
          have HWI := Lib.hid (HWH.out.trans (hb.mono HWH.out.size))
          have HU3 := Lib.hid (HU.out.below hb)
          have HU4 := Lib.hid (SlR.of_own hu)
          clear hb hu HU
          go_wp2_with fail
          refine (same_calls wi u3 u4 (allT os p) (allT os p) HU3.out HU4.out (allT_len HT.out HSM.out p hol)).mono ?_
          rintro e wj ⟨rfl, hb⟩
          rw [show sameS (allT os p) (allT os p) = true from by simp [sameS]]
          have HWJ := Lib.hid (HWI.out.trans (hb.mono HWI.out.size))
          clear hb HU3 HU4
          go_wp2
          go_roundw
          case rel => exact ⟨p + 1, by omega, by omega, by go_num, HWJ.out⟩
          case measure => simp [intOf]; omega
        · have hd : decide (p ≤ (os.length : Int)) = false := by simp; omega
          have HFIN := Lib.hid (HBE.out.trans (HW.out.mono HBE.out.size))
          go_wp2_with fail
          go_ret
          exact ⟨rfl, HFIN.out⟩

end Go.Proofs.Ytbdkbjfaialeoaa
