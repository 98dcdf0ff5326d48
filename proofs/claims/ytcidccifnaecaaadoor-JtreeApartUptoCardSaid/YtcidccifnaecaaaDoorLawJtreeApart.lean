/- JtreeApart: for every input the law returns true, and the input reads as it did; the tables of Go's library that are listed hold what Go's text lays (the card ties that to the text). No other condition. -/
import Derived.Test.YtcidccifnaecaaaDoorTie
import Derived.Test.YtcidccifnaecaaaDoorCards
import Derived.Test.YtcidccifnaecaaaDoorUpto
import Derived.Test.YtcidccifnaecaaaDoorWApart
import Derived.ProofKit
import Derived.OpenShut
import Derived.LaidMore
import Derived.Lay
import Derived.SevenTiedAt
import Derived.Stop.Joined
import Derived.ShutString
import Derived.ChangeOld
import Derived.Carry
import Derived.Lib.SmallJoins
import Derived.Deep.Fields
namespace Go.Proofs.YtcidccifnaecaaaDoor.jtreeApart
open Go.ChangeShapes Go.WideShapes Go.ChangeAt Go.RowKit Go.Joins Go.Deep
open Go.ChangeMaps (open_string shut_string)

theorem own : ownKnob Tryd.prog.godebug = none := by kernel_rfl
theorem laidOut : laidOutB Tryd.prog = true := by kernel_rfl

theorem tail_met {P : Program} {x : String × DataW Unit} {r : List (String × DataW Unit)} {W : World} (h : laidMet P (x :: r) W) : laidMet P r W := by
  obtain ⟨ps, ⟨g, t, cs, fuel, p, q, _, _, _, _, hr, rfl⟩, hn, hc⟩ := h
  exact ⟨q, hr, (List.nodup_append.1 hn).2.1, fun b off hm => hc b off (List.mem_append_right _ hm)⟩
theorem laid_of {W : World} (h : laidMetH Tryd.prog Rows.jtreeApartUptoRow.laid W) : Laid W := by
  rw [MakeChecks.laidMetH_plain _ _ _ (by kernel_rfl)] at h

  have h1 := tail_met h
  have h2 := tail_met h1
  have h3 := tail_met h2
  have h4 := tail_met h3
  have h5 := tail_met h4
  refine ⟨?_, ?_⟩
  · have e : Rows.laid_strings_asciiSpace = (Lib.tabData .u8 Lib.asciiSpaceTab : DataW Unit) := by kernel_rfl
    rw [e] at h5
    exact Lib.tabIs_of_head gn_space (by kernel_rfl) Tryd.underlying101 Tryd.underlying5 (by kernel_rfl) (by kernel_rfl) h5
  · have e : Rows.laid_internal_strconv_uint64pow10 = (Lib.tabData .u64 Lib.pow10Tab : DataW Unit) := by kernel_rfl
    rw [e] at h2
    exact Lib.tabIs_of_head gn_pow (by kernel_rfl) Tryd.underlying132 Tryd.underlying115 (by kernel_rfl) (by kernel_rfl) h2

set_option maxRecDepth 100000 in
theorem lifted (os : Os) (started : os.Started) (H : Type) (enc : TypeId × Value → H) (F : Stop.Interp) :
    ReturnsInHanded {} Tryd.checked os 8 .any (fun w args => ((Rows.OpenSpec.upto Rows.jtreeApartSpec).pre enc Tryd.prog Tryd.f8 Rows.jtreeApartUptoRow.domain false w args ∧ laidMetH Tryd.prog Rows.jtreeApartUptoRow.laid w) ∧ sizedMet enc Tryd.prog Tryd.f8 (Rows.OpenSpec.upto Rows.jtreeApartSpec) false w args)
      (((Rows.OpenSpec.upto Rows.jtreeApartSpec).at F).post enc Tryd.prog Tryd.f8 false true false false) := by
  refine handed_upto (C := Tryd.checked) (X := fun w => laidMetH Tryd.prog Rows.jtreeApartUptoRow.laid w) rfl (fun _ _ hh h => h.of_heap hh) own started (by kernel_rfl) Tryd.func8
    (World.laidAll Tryd.prog os Rows.jtreeApartUptoRow.laid) #[.agg #[.int .i64 0, .string ByteArray.empty, .int .i64 0, .slice none 0 0, .int .i64 0], .agg #[.int .i64 0, .string ByteArray.empty, .int .i64 0, .slice none 0 0, .int .i64 0]] 8 (World.laidAll_os _ _ _)
    (World.shaped_of_ZipB (by kernel_rfl) (by kernel_rfl)) (by kernel_rfl) (by kernel_rfl) (by kernel_rfl)
    (by rw [MakeChecks.laidMetH_plain _ _ _ (by kernel_rfl)]; exact laidMet_laidAll _ (by kernel_rfl) (by kernel_rfl)) ?_
  intro W base args ds gs before hval0 hW hkk hL
  have hval : ∀ (j : Nat) t v, Tryd.f8.params[j]? = some t → args[j]? = some v → Value.okWide Tryd.prog W .any base t v := hval0
  have hW' := hW
  obtain ⟨p, q, hA0, hV, rfl, hfz, hnd⟩ := hW
  have hA : DataW.TrodAll enc Tryd.prog W 0 (fun _ => true) true Tryd.f8.params.toList args.toList ds p := hA0
  rw [Tryd.params8] at hA hval
  obtain ⟨v0, vs0, d0, ds0, p0, q0, hargs, rfl, rfl, h0, r0⟩ := trodAll_cons hA
  obtain ⟨v1, vs1, d1, ds1, p1, q1, rfl, rfl, rfl, h1, r1⟩ := trodAll_cons r0
  obtain ⟨rfl, rfl, rfl⟩ := trodAll_nil r1
  obtain rfl : args = #[v0, v1] := by cases args; simp_all
  obtain ⟨rfl, rfl⟩ := trodVars_none hV
  have k0 := h0
  have lt0 : ∀ x ∈ p0, x.block < W.heap.size := by obtain ⟨m, hm⟩ := k0; exact DataW.trod_lt m _ _ _ hm
  obtain ⟨t0, ht0, hb0⟩ := open_treeB enc (hval 0 24 v0 rfl rfl) h0
  have k1 := h1
  have lt1 : ∀ x ∈ p1, x.block < W.heap.size := by obtain ⟨m, hm⟩ := k1; exact DataW.trod_lt m _ _ _ hm
  obtain ⟨t1, ht1, hb1⟩ := open_treeB enc (hval 1 24 v1 rfl rfl) h1
  have hbk : Rows.uptoBulkAll [d0, d1] ≤ 1048576 := of_decide_eq_true hkk
  simp only [Rows.uptoBulkAll] at hbk
  clear hA0 hval0
  refine (wapart W v0 t0 ht0 (by omega) v1 t1 ht1 (by omega) (laid_of hL)).mono fun e W' ⟨he, bel⟩ => ?_
  subst he
  exact ⟨_, rfl, _, _, _, [], _, [], hW', trodAll_mk1 (shut_bool Tryd.underlying4 _), (trodAll_cons_mk (Below.trod laidOut (by kernel_rfl) (of_decide_eq_true (by kernel_rfl)) k0 bel lt0) (trodAll_cons_mk (Below.trod laidOut (by kernel_rfl) (of_decide_eq_true (by kernel_rfl)) k1 bel lt1) trodAll_mk0)), rfl, bel.frame _, fun h => by cases h⟩

theorem over : Rows.JtreeApartUptoSaid :=
  OpenClaim.holds_of_cond 8 Tryd.f8 rfl rfl rfl rfl rfl rfl rfl ⟨rfl, rfl, rfl, rfl, rfl⟩ rfl rfl rfl rfl rfl (by kernel_rfl) Tryd.func8 (by kernel_rfl)
    (of_decide_eq_true (by kernel_rfl)) (by unfold Func.isWrapper; first | (rw [if_pos (by decide +kernel)]; kernel_rfl) | (rw [if_neg (by decide +kernel)]; exact ⟨rfl, rfl⟩))
    (fun os started H enc _ F => lifted os started H enc F)

theorem proved : Rows.JtreeApartUptoCardSaid :=
  Claim7.holds_tied_plain_at .later [] [.data, .data, .data, .data, .listed, .data, .pinned] true (true, "a23a5e182f941e82484997fcbd05eee8660efeeb42306a739ba9da4b6b184eac") true over (fun _ h => by cases h) (by kernel_rfl) (fun _ h => by cases h) jtreeApartUpto_row_tie rfl ⟨rfl, rfl⟩ (by kernel_rfl) rfl
    (fun f fn hf hfn => by
      obtain rfl : f = 8 := Option.some.inj ((show Tryd.prog.funcNamed "gumshoe/gumshoelaw03.JtreeApart" = some 8 by kernel_rfl).symm.trans hf) |>.symm
      obtain rfl : fn = Tryd.f8 := (Option.some.inj (Tryd.func8.symm.trans hfn)).symm
      exact ⟨by kernel_rfl, fun j t ht => by
        rw [Tryd.params8] at ht
        have hm : t ∈ [24, 24] := by simpa using Array.mem_of_getElem? ht
        have hall : ([24, 24].all fun u => !Tryd.prog.wantsStandIn u) = true := by kernel_rfl
        exact (show Tryd.prog.wantsStandIn t = false by simpa using List.all_eq_true.1 hall t hm)⟩)
    (by kernel_rfl)
#print axioms proved
end Go.Proofs.YtcidccifnaecaaaDoor.jtreeApart
