/- The second form of a row (bulk at most 2^20) with listed variables: handed over. -/
import Derived.Test.YtcidccifnaecaaaDoorOpenB
import Derived.JoinedCond
import Derived.LaidLaws
import Derived.Handed
namespace Go.Proofs.YtcidccifnaecaaaDoor
open Go.ChangeShapes

def uptoB {H : Type} (enc : TypeId × Value → H) (P : Program) (fn : Func) (s : OpenSpec) (conds : List PathCond) (w : World) (args : Array Value) (fuel : Nat) : Bool :=
  match DataW.whole enc P w fn.params.toList s.vars false args.toList fuel with
  | some x => conds.all (PathCond.test P ⟨fn.params.toList, x.1, s.bare.plain.varTypes P, x.2.1⟩) && _root_.Go.Proofs.YtcidccifnaecaaaDoor.Rows.uptoSmall H (x.1 ++ x.2.1)
  | none => false
theorem pre_of_uptoB {H : Type} {enc : TypeId × Value → H} {P : Program} {fn : Func} {s : OpenSpec} (hk : s.cond = some _root_.Go.Proofs.YtcidccifnaecaaaDoor.Rows.uptoSmall) {conds : List PathCond} {w : World} {args : Array Value} {fuel : Nat} (h : uptoB enc P fn s conds w args fuel = true) :
    s.pre enc P fn conds false w args := by
  unfold uptoB at h
  cases hx : DataW.whole enc P w fn.params.toList s.vars false args.toList fuel with
  | none => rw [hx] at h; cases h
  | some x =>
    rw [hx] at h
    rw [Bool.and_eq_true] at h
    exact (OpenSpec.pre_some hk _ _ _ _).2 ⟨x.1, x.2.1, x.2.2, DataW.Whole_of_whole hx, h.1, h.2⟩

theorem handed_upto {H : Type} {enc : TypeId × Value → H} {C : Checked} {os : Os} {f : FuncId} {fn : Func} {s : OpenSpec} (hk : s.cond = some _root_.Go.Proofs.YtcidccifnaecaaaDoor.Rows.uptoSmall) {F : Stop.Interp} {conds : List PathCond} {X : World → Prop}
    (hX : ∀ (w w' : World), w.heap = w'.heap → X w → X w')
    (own : ownKnob C.prog.godebug = none) (started : os.Started) (noInit : C.prog.inits.idxOf? f = none) (hfn : C.prog.funcs[f]? = some fn)
    (w0 : World) (args : Array Value) (fuel : Nat) (hos : w0.os = os)
    (hsh : (w0.forCall (fun _ _ => 0) ⟨#[], args, []⟩).Shaped C.prog)
    (hok : Input.okWideB C.prog (w0.forCall (fun _ _ => 0) ⟨#[], args, []⟩) f ⟨#[], args, []⟩ = true)
    (hpre : uptoB enc C.prog fn s conds (w0.forCall (fun _ _ => 0) ⟨#[], args, []⟩).memory args fuel = true)
    (hsz : s.bare.sizedB enc C.prog fn false (w0.forCall (fun _ _ => 0) ⟨#[], args, []⟩).memory args fuel = true)
    (hx : X (w0.forCall (fun _ _ => 0) ⟨#[], args, []⟩).memory)
    (contract : ∀ (W : World) (base : Nat) (args : Array Value) (ds gs : List (DataW H)) (before : List MemPlace),
      (∀ (j : Nat) t v, fn.params[j]? = some t → args[j]? = some v → Value.okWide C.prog W .any base t v) →
      DataW.Whole enc C.prog fn.params.toList s.vars false W args.toList ds gs before →
      _root_.Go.Proofs.YtcidccifnaecaaaDoor.Rows.uptoSmall H (ds ++ gs) = true → X W →
      Calls C.prog f args W fun e W' => ∃ v, e = .returned v ∧ (s.at F).post enc C.prog fn false true false false W args v W') :
    ReturnsInHanded {} C os f .any (fun w args => (s.pre enc C.prog fn conds false w args ∧ X w) ∧ sizedMet enc C.prog fn s false w args) ((s.at F).post enc C.prog fn false true false false) := by
  refine returnsInHanded_of_calls own started noInit ⟨w0, fun _ _ => 0, ⟨#[], args, []⟩, hos, hsh, (Input.okWide_of_okWideB (base := 0) hok).1, (Input.okWide_of_okWideB hok).2, ⟨⟨pre_of_uptoB hk hpre, hx⟩, sizedMet_of_sizedB hsz⟩, by
    simp only [Assume.holds]
    exact ⟨by simp, by simp, fun _ => Modest.zero, by simp, by simp⟩⟩ ?_
  intro w tape i _ _ _ hok hpre _
  obtain ⟨_, _, _, fn', hfn', _, _, _, _, hval⟩ := hok
  have e : fn' = fn := Option.some.inj (hfn'.symm.trans hfn)
  subst e
  obtain ⟨⟨hp, hxx⟩, _⟩ := hpre
  obtain ⟨ds, gs, before, hw, _, hkk⟩ := (OpenSpec.pre_some hk conds false _ _).1 hp
  have hw' := DataW.Whole.of_heap (w' := w.forCall tape i) (by rfl) hw
  refine (contract (w.forCall tape i) w.heap.size i.args ds gs before hval hw' hkk (hX _ _ (by rfl) hxx)).mono fun e W' ⟨v, he, hp⟩ => ?_
  subst he
  exact ChangeSpec.post_blind hp

end Go.Proofs.YtcidccifnaecaaaDoor
