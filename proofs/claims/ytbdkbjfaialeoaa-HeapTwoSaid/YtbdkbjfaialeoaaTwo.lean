/- The walk of HeapTwo: true. -/
import Derived.Test.YtbdkbjfaialeoaaActs
import Derived.StillTailTactics
namespace Go.Proofs.Ytbdkbjfaialeoaa
open Go.RowKit Go.Sort

/-- Both heaps, between two acts on the first. -/
def TwoR (w : World) (hb kb : Nat) (k : Nat) (wr : World) : Prop :=
  ∃ F os G, ActR w hb F os k wr ∧ Hp wr kb kb G first4 ∧ ∀ j, G j → ¬ F j
theorem TwoR.step {w wr w' : World} {hb kb k : Nat} {F G F' : Nat → Prop} {os' : List Ob} (hG : Hp wr kb kb G first4) (hd : ∀ j, G j → ¬ F j)
    (h : ActR w hb F' os' (k + 1) w' ∧ (∀ j, j < wr.heap.size → ¬ F j → ¬ F' j) ∧ Turn F wr w') : TwoR w hb kb (k + 1) w' :=
  ⟨F', os', G, h.1, hG.turn h.2.2 hd, fun j hj => h.2.1 j (hG.foot j hj).2 (hd j hj)⟩

theorem keys4_1 : keysT first4 1 = [⟨#[99, 97, 108, 108]⟩, ⟨#[97, 112, 112, 108, 121]⟩] := by decide

set_option maxRecDepth 100000 in
set_option maxHeartbeats 4000000 in
theorem two_arg (w : World) (v : Value) (xs : List ActV) (hx : ActArg w v xs) :
    Calls Try.prog 6 #[v] w fun e w' => e = .returned (.bool true) ∧ Below w.heap.size w w' := by
  obtain ⟨A, c, rfl, hm, hx⟩ := hx
  have HX := Lib.hid hx
  clear hx
  unfold maxLen at hm
  go_enter Try.func6, Try.ntmps6
  go_wp2_with fail
  refine (shown_calls w).mono ?_
  rintro e w1 ⟨rfl, hB⟩
  go_wp2_with fail
  refine (new_st w w1 hB).mono ?_
  rintro e w2 ⟨rfl, F, hs, -, -⟩
  have HS := Lib.hid hs
  clear hs hB
  go_wp2_with fail
  refine (new_st w w2 HS.out.bel).mono ?_
  rintro e w3 ⟨rfl, G, hs, hn, hb3⟩
  have HR : Hid (TwoR w w1.heap.size w2.heap.size 0 w3) :=
    ⟨F, first4, G, ⟨HS.out.below hb3, tied4, small4, by decide⟩, hs.hp, fun j hj hf => hn j (HS.out.hp.foot j hf).2 hj⟩
  clear hs hn hb3 HS
  go_wp2_with fail
  go_loopw [6] (fun i wr => ∃ k : Nat, k ≤ xs.length ∧ k ≤ 60 ∧ i = .int .i64 k ∧ TwoR w w1.heap.size w2.heap.size k wr) (fun i _ => 60 - (intOf i).toNat)
  case atStart => exact ⟨0, by omega, by omega, rfl, HR.out⟩
  case round =>
    clear HR
    obtain ⟨k, hk, hk6, rfl, F, os, G, hact, hG, hd⟩ := hrel
    have HACT := Lib.hid hact
    have HG := Lib.hid hG
    have HD := Lib.hid hd
    clear hact hG hd
    by_cases hlt : k < xs.length
    · by_cases h60 : k < 60
      · have hxk : xs[k]? = some xs[k] := List.getElem?_eq_getElem hlt
        generalize xs[k] = x at hxk
        obtain ⟨a, rfl, hab, hcs⟩ := HX.out k x hxk
        have hbl : (a.add (k * 10)).block = a.block := by unfold Addr.add; split <;> rfl
        have hc := hcs.keep (W' := wr) (HACT.out.st.bel.block _ (by rw [hbl]; exact hab))
        clear hcs hxk hbl hab
        obtain ⟨c1, c2, c3, c4, c5, c6, c7, c8, c9⟩ := hc.flat
        have c0 := hc.c0
        have HKS := Lib.hid hc.hs
        clear hc
        have hd60 : decide ((k : Int) < 60) = true := by simp; omega
        cases hkd : kind0 x with
        | true =>
          have hkd' : ((IntKind.u64.wrap x.do_).tmod 3 == 0) = true := hkd
          clear hkd
          go_wp2_with fail
          refine (alloc_calls wr w1.heap.size w1.heap.size F os x.o HACT.out.st.hp HACT.out.st.hbw (by have := HACT.out.len; omega)).mono ?_
          rintro e w' ⟨rfl, hg⟩
          obtain ⟨F', hst⟩ := HACT.out.alloc x.o hg
          have HN : Hid (TwoR w w1.heap.size w2.heap.size (k + 1) w') := TwoR.step HG.out HD.out hst
          clear hg hst c0 c1 c2 c3 c4 c5 c6 c7 c8 c9
          go_wp2
          go_roundw
          case rel => exact ⟨k + 1, by omega, by omega, by go_num, HN.out⟩
          case measure => simp [intOf]; omega
        | false =>
          have hkd' : ((IntKind.u64.wrap x.do_).tmod 3 == 0) = false := hkd
          clear hkd
          go_wp2
          go_still_tail 16, (by kernel_rfl)
          change wpList _ _ _ _ _ wr.drew
          go_wp2_with fail
          have hbd : Below wr.heap.size wr wr.drew := (Below.refl _ _).drew
          have hact := HACT.out.below hbd
          refine (hput_calls wr.drew w1.heap.size w1.heap.size F os x.p x.key x.v hact.st.hp hact.st.hbw HKS.out (hact.small.mono (by omega))).mono ?_
          rintro e w' ⟨rfl, hg⟩
          obtain ⟨F', hst⟩ := hact.put x.p x.key x.v hg
          have HN : Hid (TwoR w w1.heap.size w2.heap.size (k + 1) w') := TwoR.step (HG.out.below hbd) HD.out hst
          clear hg hst c0 c1 c2 c3 c4 c5 c6 c7 c8 c9 hact hbd
          go_wp2
          go_roundw
          case rel => exact ⟨k + 1, by omega, by omega, by go_num, HN.out⟩
          case measure => simp [intOf]; omega
      · have hd60 : decide ((k : Int) < 60) = false := by simp; omega
        have HB := Lib.hid HACT.out.st.bel
        clear HACT HD HX
        go_wp2_with fail
        refine (hlen_calls wr w2.heap.size w2.heap.size G first4 HG.out).mono ?_
        rintro e w' ⟨rfl, rfl⟩
        rw [show ((first4.length : Nat) : Int) = 4 from rfl]
        go_wp2_with fail
        refine (keys_calls wr w2.heap.size w2.heap.size G first4 1 HG.out (small4.mono (by decide))).mono ?_
        rintro e wa ⟨u, rfl, hu, hba⟩
        rw [keys4_1] at hu
        replace HG := Lib.hid (HG.out.below hba)
        replace HB := Lib.hid (HB.out.trans (hba.mono HB.out.size))
        have hsl : Hid (SlR (wa.alloc (.cells #[.string ⟨#[99, 97, 108, 108]⟩, .string ⟨#[97, 112, 112, 108, 121]⟩] 9)) u ([⟨#[99, 97, 108, 108]⟩, ⟨#[97, 112, 112, 108, 121]⟩].map Value.string)) := (SlR.of_own hu).below ((Below.refl _ _).alloc (Nat.le_refl _) _)
        clear hu hba
        go_wp2_with fail
        refine (same_calls _ u (.slice (some ⟨wa.heap.size, 0, none⟩) 2 2) [⟨#[99, 97, 108, 108]⟩, ⟨#[97, 112, 112, 108, 121]⟩] [⟨#[99, 97, 108, 108]⟩, ⟨#[97, 112, 112, 108, 121]⟩] hsl.out (SlR.block (xs := [.string ⟨#[99, 97, 108, 108]⟩, .string ⟨#[97, 112, 112, 108, 121]⟩]) (e := 9) (Blk.new _ _ _)) (by simp [maxLen])).mono ?_
        rintro e wb ⟨rfl, hbb⟩
        rw [show sameS [⟨#[99, 97, 108, 108]⟩, ⟨#[97, 112, 112, 108, 121]⟩] [⟨#[99, 97, 108, 108]⟩, ⟨#[97, 112, 112, 108, 121]⟩] = true from by simp [sameS]]
        have hab := ((Below.refl wa.heap.size wa).alloc (Nat.le_refl _) (.cells #[.string ⟨#[99, 97, 108, 108]⟩, .string ⟨#[97, 112, 112, 108, 121]⟩] 9)).trans (hbb.mono (by simp))
        replace HG := Lib.hid (HG.out.below hab)
        replace HB := Lib.hid (HB.out.trans (hab.mono HB.out.size))
        clear hbb hab hsl
        go_wp2_with fail
        refine (keys_calls wb w2.heap.size w2.heap.size G first4 0 HG.out (small4.mono (by decide))).mono ?_
        rintro e wc ⟨u0, rfl, hu, hbc⟩
        rw [show keysT first4 0 = [] from rfl] at hu
        obtain ⟨A0, c0, rfl⟩ := own_slice hu
        replace HG := Lib.hid (HG.out.below hbc)
        replace HB := Lib.hid (HB.out.trans (hbc.mono HB.out.size))
        clear hbc hu
        go_wp2_with fail
        refine (keys_calls wc w2.heap.size w2.heap.size G first4 2 HG.out (small4.mono (by decide))).mono ?_
        rintro e wd ⟨u1, rfl, hu, hbd⟩
        rw [show keysT first4 2 = [] from rfl] at hu
        obtain ⟨A1, c1, rfl⟩ := own_slice hu
        replace HG := Lib.hid (HG.out.below hbd)
        replace HB := Lib.hid (HB.out.trans (hbd.mono HB.out.size))
        clear hbd hu
        go_wp2_with fail
        refine (keys_calls wd w2.heap.size w2.heap.size G first4 3 HG.out (small4.mono (by decide))).mono ?_
        rintro e we ⟨u2, rfl, hu, hbe⟩
        rw [show keysT first4 3 = [] from rfl] at hu
        obtain ⟨A2, c2, rfl⟩ := own_slice hu
        replace HG := Lib.hid (HG.out.below hbe)
        replace HB := Lib.hid (HB.out.trans (hbe.mono HB.out.size))
        clear hbe hu
        go_wp2_with fail
        refine (hobj_calls we w2.heap.size w2.heap.size G first4 2 HG.out).mono ?_
        rintro e wf ⟨rfl, hbf⟩
        rw [show toldO (objT first4 2) = .tuple #[.agg #[.int .i64 2, .int .i64 1, .int .i64 (-1), .int .i64 0], .int .i64 0] from rfl]
        replace HB := Lib.hid (HB.out.trans (hbf.mono HB.out.size))
        clear hbf HG
        go_wp2_with fail
        go_ret
        exact ⟨rfl, HB.out.trans (((Below.refl _ _).alloc (Nat.le_refl _) _).mono HB.out.size)⟩
    · obtain rfl : k = xs.length := by omega
      have hkk : decide ((xs.length : Int) < (xs.length : Int)) = false := by simp
      have HB := Lib.hid HACT.out.st.bel
      clear HACT HD HX
      go_wp2_with fail
      refine (hlen_calls wr w2.heap.size w2.heap.size G first4 HG.out).mono ?_
      rintro e w' ⟨rfl, rfl⟩
      rw [show ((first4.length : Nat) : Int) = 4 from rfl]
      go_wp2_with fail
      refine (keys_calls wr w2.heap.size w2.heap.size G first4 1 HG.out (small4.mono (by decide))).mono ?_
      rintro e wa ⟨u, rfl, hu, hba⟩
      rw [keys4_1] at hu
      replace HG := Lib.hid (HG.out.below hba)
      replace HB := Lib.hid (HB.out.trans (hba.mono HB.out.size))
      have hsl : Hid (SlR (wa.alloc (.cells #[.string ⟨#[99, 97, 108, 108]⟩, .string ⟨#[97, 112, 112, 108, 121]⟩] 9)) u ([⟨#[99, 97, 108, 108]⟩, ⟨#[97, 112, 112, 108, 121]⟩].map Value.string)) := (SlR.of_own hu).below ((Below.refl _ _).alloc (Nat.le_refl _) _)
      clear hu hba
      go_wp2_with fail
      refine (same_calls _ u (.slice (some ⟨wa.heap.size, 0, none⟩) 2 2) [⟨#[99, 97, 108, 108]⟩, ⟨#[97, 112, 112, 108, 121]⟩] [⟨#[99, 97, 108, 108]⟩, ⟨#[97, 112, 112, 108, 121]⟩] hsl.out (SlR.block (xs := [.string ⟨#[99, 97, 108, 108]⟩, .string ⟨#[97, 112, 112, 108, 121]⟩]) (e := 9) (Blk.new _ _ _)) (by simp [maxLen])).mono ?_
      rintro e wb ⟨rfl, hbb⟩
      rw [show sameS [⟨#[99, 97, 108, 108]⟩, ⟨#[97, 112, 112, 108, 121]⟩] [⟨#[99, 97, 108, 108]⟩, ⟨#[97, 112, 112, 108, 121]⟩] = true from by simp [sameS]]
      have hab := ((Below.refl wa.heap.size wa).alloc (Nat.le_refl _) (.cells #[.string ⟨#[99, 97, 108, 108]⟩, .string ⟨#[97, 112, 112, 108, 121]⟩] 9)).trans (hbb.mono (by simp))
      replace HG := Lib.hid (HG.out.below hab)
      replace HB := Lib.hid (HB.out.trans (hab.mono HB.out.size))
      clear hbb hab hsl
      go_wp2_with fail
      refine (keys_calls wb w2.heap.size w2.heap.size G first4 0 HG.out (small4.mono (by decide))).mono ?_
      rintro e wc ⟨u0, rfl, hu, hbc⟩
      rw [show keysT first4 0 = [] from rfl] at hu
      obtain ⟨A0, c0, rfl⟩ := own_slice hu
      replace HG := Lib.hid (HG.out.below hbc)
      replace HB := Lib.hid (HB.out.trans (hbc.mono HB.out.size))
      clear hbc hu
      go_wp2_with fail
      refine (keys_calls wc w2.heap.size w2.heap.size G first4 2 HG.out (small4.mono (by decide))).mono ?_
      rintro e wd ⟨u1, rfl, hu, hbd⟩
      rw [show keysT first4 2 = [] from rfl] at hu
      obtain ⟨A1, c1, rfl⟩ := own_slice hu
      replace HG := Lib.hid (HG.out.below hbd)
      replace HB := Lib.hid (HB.out.trans (hbd.mono HB.out.size))
      clear hbd hu
      go_wp2_with fail
      refine (keys_calls wd w2.heap.size w2.heap.size G first4 3 HG.out (small4.mono (by decide))).mono ?_
      rintro e we ⟨u2, rfl, hu, hbe⟩
      rw [show keysT first4 3 = [] from rfl] at hu
      obtain ⟨A2, c2, rfl⟩ := own_slice hu
      replace HG := Lib.hid (HG.out.below hbe)
      replace HB := Lib.hid (HB.out.trans (hbe.mono HB.out.size))
      clear hbe hu
      go_wp2_with fail
      refine (hobj_calls we w2.heap.size w2.heap.size G first4 2 HG.out).mono ?_
      rintro e wf ⟨rfl, hbf⟩
      rw [show toldO (objT first4 2) = .tuple #[.agg #[.int .i64 2, .int .i64 1, .int .i64 (-1), .int .i64 0], .int .i64 0] from rfl]
      replace HB := Lib.hid (HB.out.trans (hbf.mono HB.out.size))
      clear hbf HG
      go_wp2_with fail
      go_ret
      exact ⟨rfl, HB.out.trans (((Below.refl _ _).alloc (Nat.le_refl _) _).mono HB.out.size)⟩

end Go.Proofs.Ytbdkbjfaialeoaa
