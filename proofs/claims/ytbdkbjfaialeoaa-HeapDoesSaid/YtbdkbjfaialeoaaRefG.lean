/- The document's heap: Get and All, walked. -/
import Derived.Test.YtbdkbjfaialeoaaRefR
import Derived.Test.YtbdkbjfaialeoaaCallsA
namespace Go.Proofs.Ytbdkbjfaialeoaa
open Go.RowKit Go.Sort

set_option maxHeartbeats 2000000 in
theorem rget_calls (w : World) (B rb : Nat) (F : Nat → Prop) (os : List Ob) (p : Int) (key : ByteArray) (h : RHp w B rb F os) (hT : Tied os) (hn : Small 100000 os) :
    Calls Try.prog 37 #[.pointer (some ⟨rb, 0, none⟩), .int .i64 p, .string key] w fun e w' => e = .returned (told (getT os p key)) ∧ Below w.heap.size w w' := by
  have HH := Lib.hid h
  have HT := Lib.hid hT
  have HN := Lib.hid hn
  have HC0 := Lib.hid (chainT_chain hT p)
  clear h hT hn
  go_enter Try.func37, Try.ntmps37
  go_wp2_with fail
  go_loopw [1] (fun q wr => ∃ (q' : Int) (rest : List Nat), q = .int .i64 q' ∧ Chain os q' rest ∧ getT os p key = (rest.findSome? fun i => (os[i]?).bind fun o => o.vals key.data.toList) ∧ Below w.heap.size w wr ∧ Blk wr w.heap.size 33 #[.int .i64 0, .int .i64 0, .string ⟨#[]⟩]) (fun q _ => (intOf q + 1).toNat)
  case atStart => exact ⟨p, _, rfl, HC0.out, rfl, (Below.refl _ _).alloc (Nat.le_refl _) _, Blk.new _ _ _⟩
  case round =>
    obtain ⟨q, rest, rfl, hch, hg, hb, hbk⟩ := hrel
    have hr := HH.out.below hb
    obtain ⟨A, cap, hc⟩ := hr.cell
    have HG := Lib.hid hg
    have HB := Lib.hid hb
    have HR := Lib.hid hr
    clear hg hb hr
    cases hch with
    | stop hq =>
      have HBK := Lib.hid hbk
      have hc0 := hbk.cell 0
      have hc1 := hbk.cell 1
      have hc2 := hbk.cell 2
      have hf0 := hbk.frozen 0
      have hf1 := hbk.frozen 1
      have hf2 := hbk.frozen 2
      clear hbk
      rcases hq with hq | hq
      · have h0 : ¬ 0 ≤ q := by omega
        go_wp2
        exact bodyPost_ret (v := told none) (by simp [results, Try.f37, go_sem, told, zeroVal, hc0, hc1, hc2]) rfl ⟨by rw [HG.out]; rfl, by
          exact ((HB.out.setCell (p := ⟨w.heap.size, 0, none⟩) (by simp) _).setCell (p := ⟨w.heap.size, 1, none⟩) (by simp) _).setCell (p := ⟨w.heap.size, 2, none⟩) (by simp) _⟩
      · have h0 : 0 ≤ q := by omega
        have h1 : ¬ q < os.length := by omega
        go_wp2
        exact bodyPost_ret (v := told none) (by simp [results, Try.f37, go_sem, told, zeroVal, hc0, hc1, hc2]) rfl ⟨by rw [HG.out]; rfl, by
          exact ((HB.out.setCell (p := ⟨w.heap.size, 0, none⟩) (by simp) _).setCell (p := ⟨w.heap.size, 1, none⟩) (by simp) _).setCell (p := ⟨w.heap.size, 2, none⟩) (by simp) _⟩
    | step ho hch =>
      rename_i k o rest
      have hpr := HT.out k o ho
      have hk1 : k < os.length := (List.getElem?_eq_some_iff.1 ho).1
      have hk2 : (k : Int) < os.length := by omega
      have HOW : Hid (ownT os (k : Int) key = o.vals key.data.toList) := by
        refine Lib.hid ?_
        rw [ownT, objT_nat, ho]
        rfl
      have HO := Lib.hid ho
      have HCH := Lib.hid hch
      have HBK := Lib.hid hbk
      clear ho hch hbk
      go_wp2_with fail
      refine (rown_calls wr B rb F os k key HR.out HN.out).mono ?_
      rintro e w2 ⟨rfl, hb2⟩
      rw [HOW.out]
      cases hv : o.vals key.data.toList with
      | none =>
        rw [told_none]
        have HV := Lib.hid hv
        clear hv
        obtain ⟨w3, hw3⟩ : ∃ w3, w2.alloc (.cells #[.int .i64 0, .int .i64 0, .string ⟨#[]⟩] 33) = w3 := ⟨_, rfl⟩
        have hb3 : Below wr.heap.size wr w3 := by rw [← hw3]; exact hb2.trans (((Below.refl _ _).alloc (Nat.le_refl _) _).mono hb2.size)
        have hr3 := HR.out.below hb3
        obtain ⟨g, cap3, L, hc3, hcs, hO, hgl⟩ := hr3.way HO.out
        have c1 : w3.cell? ⟨g, k * 6 + 1, none⟩ = some (.int .i64 o.o.proto) := hcs 1 (by decide)
        rw [← hw3] at c1 hc3
        have HW3 := Lib.hid hw3
        have HB3 := Lib.hid (HB.out.trans (hb3.mono HB.out.size))
        have HBK3 := Lib.hid (HBK.out.keep (hb3.block _ HBK.out.lt))
        clear hb3 hr3 hcs hO hgl hb2 hw3 hc
        go_wp2
        go_roundw
        case rel =>
          refine ⟨o.o.proto, rest, rfl, HCH.out, ?_, ?_, ?_⟩
          · rw [HG.out, List.findSome?_cons, HO.out]
            simp only [Option.bind_some, HV.out]
          · rw [HW3.out]; exact HB3.out
          · rw [HW3.out]; exact HBK3.out
        case measure => simp [intOf]; omega
      | some vx =>
        rw [told_some]
        have HV := Lib.hid hv
        clear hv
        have hbk2 := HBK.out.keep (hb2.block _ HBK.out.lt)
        have hc0 := hbk2.cell 0
        have hc1 := hbk2.cell 1
        have hc2 := hbk2.cell 2
        have hf0 := hbk2.frozen 0
        have hf1 := hbk2.frozen 1
        have hf2 := hbk2.frozen 2
        have hlt2 := hbk2.lt
        have HB2 := Lib.hid (HB.out.trans (hb2.mono HB.out.size))
        clear hbk2 hb2 hc
        go_wp2
        exact bodyPost_ret (v := told (some vx)) (by simp [results, Try.f37, go_sem, told, Vl.val, hc0, hc1, hc2, hlt2]) rfl ⟨by
            rw [HG.out, List.findSome?_cons, HO.out]
            simp only [Option.bind_some, HV.out], by
          exact (((HB2.out.setCell (p := ⟨w.heap.size, 0, none⟩) (by simp) _).setCell (p := ⟨w.heap.size, 1, none⟩) (by simp) _).setCell (p := ⟨w.heap.size, 2, none⟩) (by simp) _).alloc (by simp [World.setCell]; omega) _⟩

/-- All, between two rounds. -/
def RAllR (w : World) (u : Value) (out : List ByteArray) (wr : World) : Prop :=
  wr.ownsRow w.heap.size 9 1 u out.length (out.map Value.string) ∧ Below w.heap.size w wr

set_option maxRecDepth 100000 in
set_option maxHeartbeats 4000000 in
theorem rall_calls (w : World) (B rb : Nat) (F : Nat → Prop) (os : List Ob) (p : Int) (h : RHp w B rb F os) (hT : Tied os) (hn : Small 100000 os) (hl : os.length ≤ 10000) :
    Calls Try.prog 27 #[.pointer (some ⟨rb, 0, none⟩), .int .i64 p] w fun e w' => ∃ v, e = .returned v ∧ RAllR w v (allT os p) w' := by
  have HH := Lib.hid h
  have HT := Lib.hid hT
  have HN := Lib.hid hn
  have HC0 := Lib.hid (chainT_chain hT p)
  have hcl := chainT_len hT p
  clear h hT hn
  unfold allT
  generalize chainT os p = ps at HC0 hcl
  go_enter Try.func27, Try.ntmps27
  go_wp2_with fail
  go_loopw [1, 5] (fun q u wr => ∃ (q' : Int) (pre rest : List Nat), q = .int .i64 q' ∧ Chain os q' rest ∧ ps = pre ++ rest ∧ RAllR w u (allK os pre) wr) (fun q _ _ => (intOf q + 1).toNat)
  case atStart => exact ⟨p, [], ps, rfl, HC0.out, rfl, World.ownsRow_nil _ _ _ _, Below.refl _ _⟩
  case round =>
    clear HC0
    obtain ⟨q, pre, rest, rfl, hch, hps, hrow, hb⟩ := hrel
    have hr := HH.out.below hb
    obtain ⟨A, cap, hc⟩ := hr.cell
    have HPS := Lib.hid hps
    have HB := Lib.hid hb
    have HROW := Lib.hid hrow
    obtain ⟨A2, c2, rfl⟩ := own_slice hrow
    clear hps hb hr hrow
    cases hch with
    | stop hq =>
      have HEQ : Hid (allK os ps = allK os pre) := by rw [HPS.out, List.append_nil]; exact Lib.hid rfl
      rcases hq with hq | hq
      · have h0 : ¬ 0 ≤ q := by omega
        go_wp2
        go_ret
        exact ⟨_, rfl, by rw [HEQ.out]; exact HROW.out, HB.out⟩
      · have h0 : 0 ≤ q := by omega
        have h1 : ¬ q < os.length := by omega
        go_wp2
        go_ret
        exact ⟨_, rfl, by rw [HEQ.out]; exact HROW.out, HB.out⟩
    | step ho hch =>
      rename_i k o rest
      have hpr := HT.out k o ho
      have hk1 : k < os.length := (List.getElem?_eq_some_iff.1 ho).1
      have hk2 : (k : Int) < os.length := by omega
      have HO := Lib.hid ho
      have HCH := Lib.hid hch
      have hlen : (allK os pre).length ≤ pre.length * 100000 := by have := allK_len HN.out pre []; simpa [allK] using this
      have hpl : pre.length < 10000 := by
        have := congrArg List.length HPS.out
        simp at this
        omega
      have hkl : o.keys.length ≤ 100000 := HN.out o (List.mem_of_getElem? ho)
      have HSUM : Hid (∀ j, (addAll (allK os pre) (o.keys.take j)).length ≤ 1000200000) := Lib.hid (fun j => by
        have h1 := addAll_len (o.keys.take j) (allK os pre)
        have h2 : (o.keys.take j).length ≤ o.keys.length := by simp; omega
        omega)
      have HEND : Hid (allK os (pre ++ [k]) = addAll (allK os pre) (o.keys.take o.keys.length)) := by
        refine Lib.hid ?_
        simp [allK, keysAt, ho]
      clear ho hch hlen hpl hcl
      obtain ⟨wa, hwa⟩ : ∃ z, z = wr := ⟨_, rfl⟩
      subst hwa
      go_wp2_with fail
      go_loopw [5, 6] (fun u i wr => ∃ j : Nat, j ≤ o.keys.length ∧ i = .int .i64 j ∧ RAllR w u (addAll (allK os pre) (o.keys.take j)) wr) (fun _ i _ => o.keys.length - (intOf i).toNat)
      case atStart => exact ⟨0, by omega, rfl, HROW.out, HB.out⟩
      case round =>
        obtain ⟨j, hj, rfl, hrow2, hb2⟩ := hrel
        have hr2 := HH.out.below hb2
        obtain ⟨g, cap3, L, hc3, hcs, hOb, hgl⟩ := hr2.way HO.out
        have c1 : wr.cell? ⟨g, k * 6 + 1, none⟩ = some (.int .i64 o.o.proto) := hcs 1 (by decide)
        have c4 : wr.cell? ⟨g, k * 6 + 4, none⟩ = some L.kv := hcs 4 (by decide)
        have HSL0 := SlR.of_own hOb.krow
        obtain ⟨A4, c4n, hkv⟩ := own_slice hOb.krow
        rw [hkv] at c4 HSL0
        have HSL := Lib.hid HSL0
        have HROW2 := Lib.hid hrow2
        have HB2 := Lib.hid hb2
        clear hr2 hcs hOb hgl hkv HSL0 hc
        obtain ⟨A5, c5, rfl⟩ := own_slice hrow2
        clear hrow2 hb2
        by_cases hjl : j < o.keys.length
        · have hx : o.keys[j]? = some o.keys[j] := List.getElem?_eq_getElem hjl
          generalize o.keys[j] = x at hx
          obtain ⟨A4', c4', hAA, hcells⟩ := HSL.out
          injection hAA with hA1 hA2 hA3
          clear hA2 hA3
          subst hA1
          obtain ⟨b1, o1, hA', hb1, hc1⟩ := hcells j (.string x) (by simp [hx])
          subst hA'
          have HNX : Hid (addAll (allK os pre) (o.keys.take (j + 1)) = addK (addAll (allK os pre) (o.keys.take j)) x) := by
            refine Lib.hid ?_
            rw [List.take_add_one, hx]
            simp [addAll]
          have hwl := HSUM.out j
          clear hcells hx
          generalize addAll (allK os pre) (o.keys.take j) = ws at HROW2 HNX hwl
          have HSW := Lib.hid (SlR.of_own HROW2.out)
          obtain ⟨wb, hwb⟩ : ∃ z, z = wr := ⟨_, rfl⟩
          subst hwb
          clear c1
          go_wp2
          go_loopw [7, 8] (fun th m wr => ∃ m' : Nat, m' ≤ ws.length ∧ m = .int .i64 m' ∧ th = .bool (memS x (ws.take m')) ∧ Below wb.heap.size wb wr) (fun _ m _ => ws.length - (intOf m).toNat)
          case atStart => exact ⟨0, by omega, rfl, rfl, Below.refl _ _⟩
          case round =>
            obtain ⟨m, hml, rfl, rfl, hbv⟩ := hrel
            have d0 : wr.cell? ⟨rb, 0, none⟩ = some (.slice (some ⟨g, 0, none⟩) os.length cap3) := (hbv.cell (p := ⟨rb, 0, none⟩) (World.block_lt_of_cell? _ _ hc3)).trans hc3
            have d4 : wr.cell? ⟨g, k * 6 + 4, none⟩ = some (.slice (some ⟨b1, o1, none⟩) o.keys.length c4n) := (hbv.cell (p := ⟨g, k * 6 + 4, none⟩) (World.block_lt_of_cell? _ _ c4)).trans c4
            have dx : wr.cell? ⟨b1, o1 + j, none⟩ = some (.string x) := (hbv.cell (p := ⟨b1, o1 + j, none⟩) hb1).trans hc1
            by_cases hmt : m < ws.length
            · have hy : ws[m]? = some ws[m] := List.getElem?_eq_getElem hmt
              generalize ws[m] = y at hy
              obtain ⟨A6, c6, hAA, hcells⟩ := HSW.out
              injection hAA with hA1 hA2 hA3
              clear hA2 hA3
              subst hA1
              obtain ⟨b2, o2, hA', hb2', hc2⟩ := hcells m (.string y) (by simp [hy])
              subst hA'
              have dy : wr.cell? ⟨b2, o2 + m, none⟩ = some (.string y) := (hbv.cell (p := ⟨b2, o2 + m, none⟩) hb2').trans hc2
              have HTK : Hid (memS x (ws.take (m + 1)) = (memS x (ws.take m) || decide (y = x))) := by
                refine Lib.hid ?_
                rw [List.take_add_one, hy]
                simp [memS]
              clear hcells hy hc2 hc1 c4 hc3
              cases hmm : memS x (ws.take m) with
              | true =>
                have HMM := Lib.hid hmm
                clear hmm
                go_wp2
                go_region
                go_wp2
                go_roundw
                case rel => exact ⟨m + 1, by omega, by go_num, by rw [HTK.out, HMM.out]; rfl, hbv.drew⟩
                case measure => simp [intOf]; omega
              | false =>
                have HMM := Lib.hid hmm
                clear hmm
                by_cases hyx : y = x
                · have he : (y.toList == x.toList) = true := by simp [hyx]
                  have HE := Lib.hid hyx
                  clear hyx
                  go_wp2
                  go_region
                  go_wp2
                  go_roundw
                  case rel => exact ⟨m + 1, by omega, by go_num, by rw [HTK.out, HE.out]; simp, hbv.drew⟩
                  case measure => simp [intOf]; omega
                · have he : (y.toList == x.toList) = false := by
                    rw [ByteArray.toList_eq, ByteArray.toList_eq, beq_eq_false_iff_ne]
                    exact fun h => hyx (Go.WideShapes.bytes_inj h)
                  have HE := Lib.hid hyx
                  clear hyx
                  go_wp2
                  go_region
                  go_wp2
                  go_roundw
                  case rel => exact ⟨m + 1, by omega, by go_num, by rw [HTK.out, HMM.out]; simp [HE.out], hbv.drew⟩
                  case measure => simp [intOf]; omega
            · obtain rfl : m = ws.length := by omega
              have hd : decide ((ws.length : Int) < (ws.length : Int)) = false := by simp
              rw [List.take_length]
              have HOW := own_keep (w' := wr) HROW2.out (fun g hg => hbv.block g (HROW2.out.lt g hg).2)
              have HBW := HB2.out.trans (hbv.mono HB2.out.size)
              have hwz := HBW.size
              clear hbv hc1 c4 hc3
              cases hmm : memS x ws with
              | true =>
                have HAK : Hid (addK ws x = ws) := by refine Lib.hid ?_; rw [addK, hmm]; rfl
                have HFIN : Hid (RAllR w (.slice A5 ws.length c5) ws wr) := ⟨HOW, HBW⟩
                clear hmm HOW HBW
                go_wp2
                go_roundw
                case rel => exact ⟨j + 1, by omega, by go_num, by rw [HNX.out, HAK.out]; exact HFIN.out⟩
                case measure => simp [intOf]; omega
              | false =>
                have HAK : Hid (addK ws x = ws ++ [x]) := by refine Lib.hid ?_; rw [addK, hmm]; rfl
                have HOW' := Lib.hid HOW
                have HBW' := Lib.hid HBW
                clear hmm HOW HBW
                obtain ⟨i0, hi0, hz0, hz1, hz2⟩ := info_parts info_str
                go_wp2_with (at_builtin; refine wpList_append_own _ rfl _ _ 38 rfl w.heap.size 9 i0 _ 1 16 Try.underlying38 hi0 hz0 hz1 hz2 rfl (by omega) (.slice A5 ws.length c5) ws.length (ws.map Value.string) rfl (HOW'.out.alloc _) ⟨wr.heap.size, 0, none⟩ 1 1 [.string x] rfl rfl (World.news_of_block (cs := #[.string x]) (t := 9) (fr := (0, 0)) (Blk.new wr _ _)) (by simp [Value.oneCell']) (by simp only [maxLen]; omega) (by omega) (by simp; omega) ?_)
                intro v' w5 hown hgrow hnil
                have HFIN : Hid (RAllR w v' (ws ++ [x]) w5) := ⟨by simpa using hown, (HBW'.out.alloc hwz _).grown hgrow (by simp; omega) (fun g hg => (HOW'.out.lt g hg).1)⟩
                clear hown hgrow hnil hi0 hz0 hz1 hz2
                go_wp2
                go_roundw
                case rel => exact ⟨j + 1, by omega, by go_num, by rw [HNX.out, HAK.out]; exact HFIN.out⟩
                case measure => simp [intOf]; omega
        · obtain rfl : j = o.keys.length := by omega
          have hd : decide ((o.keys.length : Int) < (o.keys.length : Int)) = false := by simp
          clear HSL
          go_wp2
          go_roundw
          case rel => exact ⟨o.o.proto, pre ++ [k], rest, rfl, HCH.out, by rw [HPS.out]; simp, by rw [HEND.out]; exact ⟨HROW2.out, HB2.out⟩⟩
          case measure => simp [intOf]; omega

end Go.Proofs.Ytbdkbjfaialeoaa
