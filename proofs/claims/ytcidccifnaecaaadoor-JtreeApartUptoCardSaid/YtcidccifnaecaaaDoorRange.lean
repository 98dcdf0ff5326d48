/- A range over a function, said by what a call of yield does to the loop's record: the iterator is walked with that in hand; it may keep state of its own in cells. -/
import Derived.Test.YtcidccifnaecaaaDoorBase
import Derived.RangeFuncNested
import Derived.RangeFuncBound
import Derived.RangeFuncCalls
import Derived.RangeFuncLeaves
import Derived.OwnWalkIn
import Derived.TacticsInMore
import Derived.LoopNIn
import Derived.LoopIn
namespace Go.Proofs.YtcidccifnaecaaaDoor
open Go.RowKit

/-- The loop's record, in each state. -/
def recOf (fn : FuncId) (tmps : Array Value) (ps : Array Tmp) (assign body : Code) (D : Nat) (st : LoopState) (pe : Option Code) : Obj :=
  .loop { state := st, pending := pe, fn, tmps, params := ps, assign, body, defers := D }

/-- How a round's body may be left: at a way out the record is as the round began it, and what follows holds of the world in which the record has been turned. -/
def leavePost (l : Nat) (R : LoopState → Option Code → Obj) (Go : World → Prop) (Stop : Code → World → Prop) : Exit → Act → World → Prop
  | .normal, _, w => w.heap[l]? = some (R .busy none) ∧ Go (w.putObj l (R .ready none))
  | .ret, _, w => w.heap[l]? = some (R .busy none) ∧ Stop .ret (w.putObj l (R .done (some .ret)))
  | .exit id, _, w => w.heap[l]? = some (R .busy none) ∧ Stop (.exit id) (w.putObj l (R .done (some (.exit id))))
  | .goto t, _, w => w.heap[l]? = some (R .busy none) ∧ Stop (.goto t) (w.putObj l (R .done (some (.goto t))))
  | .panic _, _, _ => False
  | .outgrown, _, _ => False

variable {F : Fence} {n : Nat} {P : Program}

/-- ONE CALL OF yield: out of the walk of the assignment and of the body. -/
theorem yield_of {fn : FuncId} {tmps : Array Value} {ps : Array Tmp} {assign body : Code} {D l m : Nat} {args : Array Value} {W : World} {R : LoopState → Option Code → Obj} (hR : recOf fn tmps ps assign body D = R)
    (Go : World → Prop) (Stop : Code → World → Prop) (hF : F.fn fn)
    (hl : W.heap[l]? = some (R .ready none)) (hs : args.size = ps.size)
    (h : assign.wpIn (F.inRound l) m P (Exit.then (fun a1 W1 => W1.heap[l]? = some (R .ready none) ∧
        body.wpIn (F.inRound l) m P (leavePost l R Go Stop) a1 (W1.putObj l (R .busy none))) (fun _ _ _ => False))
      { tmps := (ps.zip args).foldl (fun t (p, v) => t.setIfInBounds p v) tmps, defers := [] } W) :
    YieldAt F m P l args W fun e W' => (e = .returned (.bool true) ∧ Go W') ∨ (e = .returned (.bool false) ∧ ∃ c, Stop c W') := by
  subst hR
  refine ⟨fn, _, assign, body, run_yield hl hs, roundIn_of_wpIn hF ?_⟩
  refine wpIn_mono h ?_
  intro e a1 W1 hq
  cases e with
  | normal =>
    obtain ⟨hl1, hb⟩ := hq
    refine ⟨_, run_beginRound hl1 rfl, wpIn_mono hb ?_⟩
    intro e a2 W2 hq2
    cases e with
    | normal =>
      obtain ⟨hl2, hg⟩ := hq2
      exact ⟨_, _, run_endRound none hl2, .inl ⟨rfl, hg⟩⟩
    | ret =>
      obtain ⟨hl2, hg⟩ := hq2
      exact ⟨_, _, run_endRound (some .ret) hl2, .inr ⟨rfl, _, hg⟩⟩
    | exit id =>
      obtain ⟨hl2, hg⟩ := hq2
      exact ⟨_, _, run_endRound (some (.exit id)) hl2, .inr ⟨rfl, _, hg⟩⟩
    | goto t =>
      obtain ⟨hl2, hg⟩ := hq2
      exact ⟨_, _, run_endRound (some (.goto t)) hl2, .inr ⟨rfl, _, hg⟩⟩
    | panic c => exact hq2.elim
    | outgrown => exact hq2.elim
  | ret => exact hq.elim
  | exit id => exact hq.elim
  | goto t => exact hq.elim
  | panic c => exact hq.elim
  | outgrown => exact hq.elim

/-- A piece that comes to one end, whatever the order. -/
theorem wpIn_one {c : Code} {Q : Exit → Act → World → Prop} {a : Act} {w : World} (A : Act) (X : World) (h : c.wpIn F n P (fun e a' w' => e = .normal ∧ a' = A ∧ w' = X) a w) (hq : Q .normal A X) : c.wpIn F n P Q a w :=
  wpIn_mono h (fun e a' w' hh => by obtain ⟨rfl, rfl, rfl⟩ := hh; exact hq)

/-- What is asked when the iterator has returned. -/
def behind (F : Fence) (n : Nat) (P : Program) (l D : Nat) (R : LoopState → Option Code → Obj) (Q : Exit → Act → World → Prop) (a' : Act) (e : Ending) (W : World) : Prop :=
  (∃ v, e = .returned v) ∧ W.heap[D]? = some (.deferred (some [])) ∧
    ((W.heap[l]? = some (R .ready none) ∧ Q .normal a' (W.putObj l (R .exhausted none))) ∨
     (∃ c, W.heap[l]? = some (R .done (some c)) ∧ c.wpIn F n P Q a' (W.putObj l (R .exhausted (some c)))))

/-- THE STATEMENT, outside a round. -/
theorem range_outer {g : Operand} {ps : Array Tmp} {assign body : Code} {Q : Exit → Act → World → Prop} {a : Act} {w : World}
    (hro : F.round = none) (h1 : 1 ≤ n) {gf : Nat} {lb : Array Value} (hg : a.eval g = .func (.func gf) #[] lb) (hFg : F.fn gf) (eg : ∀ args w, (callFunc gf args).run P w = .ok (.enter gf args) w)
    (h : ∀ fn R, F.fn fn → recOf fn a.tmps ps assign body w.heap.size = R → CallsIn F (n - 1) P gf (#[.func (.yield (w.heap.size + 1)) #[] #[]] ++ lb)
      ((w.alloc (.deferred (some []))).alloc (R .ready none))
      (behind F n P (w.heap.size + 1) w.heap.size R Q { a with defers := { target := .collected w.heap.size, args := #[] } :: a.defers })) :
    (Code.rangeFunc g ps assign body).wpIn F n P Q a w := by
  refine wpIn_rangeFunc ?_
  intro fn hfn
  rw [hro]
  refine ⟨w.heap.size + 1, [{ target := .collected w.heap.size, args := #[] }], (w.alloc (.deferred (some []))).alloc (recOf fn a.tmps ps assign body w.heap.size .ready none), { target := .fn (.func gf) lb, args := #[.func (.yield (w.heap.size + 1)) #[] #[]] }, (w.alloc (.deferred (some []))).alloc (recOf fn a.tmps ps assign body w.heap.size .ready none), gf,
    #[.func (.yield (w.heap.size + 1)) #[] #[]] ++ lb, (w.alloc (.deferred (some []))).alloc (recOf fn a.tmps ps assign body w.heap.size .ready none), run_enterLoop_outer _ _ _ _ _, ?_, ?_, ?_, fun _ => h1, ?_⟩
  · simp only [resolve, hg]
    simp [go_sem]
  · intro f' hf'
    simp [Target.leads] at hf'
    subst hf'
    exact hFg
  · simp [invoke, go_sem, eg]
  · refine (h fn _ hfn rfl).mono ?_
    rintro e W ⟨⟨v, rfl⟩, _, (⟨hl, hq⟩ | ⟨c, hl, hq⟩)⟩
    · exact ⟨none, _, run_endLoop hl (by simp), hq⟩
    · exact ⟨some c, _, run_endLoop hl (by simp), hq⟩

end Go.Proofs.YtcidccifnaecaaaDoor
