/- jtree.all's iterator, walked: a recursive range over a function. -/
import Derived.Test.YtcidccifnaecaaaDoorFlat
import Derived.Test.YtcidccifnaecaaaDoorRange
import Derived.Deep.AppendLies
import Derived.Lib.Hide
namespace Go.Proofs.YtcidccifnaecaaaDoor
open Go.RowKit

/-- What a caller of the iterator says of its own state: 'J going-on got blocks world'. -/
abbrev Jt := Bool → List (Tree × Value) → (Nat → Prop) → World → Prop
structure JOk (w0 : World) (J : Jt) : Prop where
  foot : ∀ {b p F W}, J b p F W → ∀ k, F k → k < W.heap.size
  keep : ∀ {b p F W W'}, J b p F W → Turn (fun k => ¬ F k) W W' → J b p F W'
  low : ∀ {b p F W}, J b p F W → Below w0.heap.size w0 W
/-- Only blocks of F turn, and no other one comes to be of F' but new ones. -/
structure Kpt (F : Nat → Prop) (W W' : World) (F' : Nat → Prop) : Prop where
  turn : Turn F W W'
  foot : ∀ k, k < W.heap.size → ¬ F k → ¬ F' k
theorem Kpt.refl (F : Nat → Prop) (W : World) : Kpt F W W F := ⟨Turn.refl _ _, fun _ _ h => h⟩
theorem Kpt.trans {F F1 F2 : Nat → Prop} {a b c : World} (h : Kpt F a b F1) (k : Kpt F1 b c F2) : Kpt F a c F2 :=
  ⟨h.turn.trans k.turn (fun i hi hf => Classical.byContradiction fun hn => h.foot i hi hn hf), fun i hi hf => k.foot i (Nat.lt_of_lt_of_le hi h.turn.size) (h.foot i hi hf)⟩
theorem Kpt.old {F F1 : Nat → Prop} {a b c : World} (h : Kpt F b c F1) (ht : Turn (fun _ => False) a b) : Kpt F a c F1 :=
  ⟨(ht.mono (G := F) (fun _ _ e => e.elim)).trans h.turn (fun _ _ hf => hf), fun k hk hf => h.foot k (Nat.lt_of_lt_of_le hk ht.size) hf⟩

theorem RoundIn.inRound {F : Fence} {n : Nat} {P : Program} {l0 : Nat} {f : FuncId} {tmps : Array Value} {assign body : Code} {w : World} {R : Ending → World → Prop} (l : Nat) (h : RoundIn F n P l0 f tmps assign body w R) : RoundIn (F.inRound l) n P l0 f tmps assign body w R := h
theorem turn_put (W : World) (l : Nat) (o : Obj) : Turn (fun k => k = l) W (W.putObj l o) :=
  (Turn.refl _ W).grown (grownBy_putObj' W l o) (fun k _ e => by injection e with e; exact e.symm)

/-- How a function leaves that has only marks to shut. -/
theorem leaves_marks {n : Nat} {P : Program} {fn : Func} {tmps : Array Value} {R : Ending → World → Prop} : ∀ (ms : List Nat) (W : World), (∀ r ∈ ms, W.heap[r]? = some (.deferred (some []))) → ms.Nodup →
    (∀ W', Turn (fun k => k ∈ ms) W W' → LeavesInM Fence.wide n P fn tmps R [] .returning W') →
    LeavesInM Fence.wide n P fn tmps R (ms.map fun r => { target := .collected r, args := #[] }) .returning W
  | [], W, _, _, h => h W (Turn.refl _ _)
  | r :: ms, W, hm, hnd, h => by
    rw [List.nodup_cons] at hnd
    refine ⟨by simp, .inl ⟨r, _, rfl, run_takeDeferred (hm r (by simp)), ?_⟩⟩
    refine leaves_marks ms _ (fun q hq => ?_) hnd.2 (fun W' hW' => h W' ?_)
    · rw [World.putObj_heap_other (by rintro rfl; exact hnd.1 hq)]
      exact hm q (by simp [hq])
    · exact (turn_put W r _).mono (fun k _ e => by simp [e]) |>.trans (hW'.mono (fun k _ e => by simp [e])) (fun _ _ hf => hf)

/-- A range over a function, outside a round, no bound on the depth. -/
theorem range_wide {n : Nat} {P : Program} {g : Operand} {ps : Array Tmp} {assign body : Code} {Q : Exit → Act → World → Prop} {a : Act} {w : World}
    {gf : Nat} {lb : Array Value} (hg : a.eval g = .func (.func gf) #[] lb) (eg : ∀ args w, (callFunc gf args).run P w = .ok (.enter gf args) w)
    (h : ∀ fn R, recOf fn a.tmps ps assign body w.heap.size = R → CallsIn Fence.wide (n - 1) P gf (#[.func (.yield (w.heap.size + 1)) #[] #[]] ++ lb)
      ((w.alloc (.deferred (some []))).alloc (R .ready none))
      (behind Fence.wide n P (w.heap.size + 1) w.heap.size R Q { a with defers := { target := .collected w.heap.size, args := #[] } :: a.defers })) :
    (Code.rangeFunc g ps assign body).wpIn Fence.wide n P Q a w := by
  refine wpIn_rangeFunc ?_
  intro fn hfn
  show ∃ (l : Nat) (mark : List Deferred) (w₁ : World) (d : Deferred) (w₁' : World) (f : FuncId) (args : Array Value) (w₂ : World), (Instr.enterLoop fn a.tmps ps assign body none).run P w = .ok (l, mark) w₁ ∧ _
  refine ⟨w.heap.size + 1, [{ target := .collected w.heap.size, args := #[] }], (w.alloc (.deferred (some []))).alloc (recOf fn a.tmps ps assign body w.heap.size .ready none), { target := .fn (.func gf) lb, args := #[.func (.yield (w.heap.size + 1)) #[] #[]] }, (w.alloc (.deferred (some []))).alloc (recOf fn a.tmps ps assign body w.heap.size .ready none), gf,
    #[.func (.yield (w.heap.size + 1)) #[] #[]] ++ lb, (w.alloc (.deferred (some []))).alloc (recOf fn a.tmps ps assign body w.heap.size .ready none), run_enterLoop_outer _ _ _ _ _, ?_, ?_, ?_, fun hh => (by cases hh), ?_⟩
  · simp only [resolve, hg]
    simp [go_sem]
  · intro f' hf'
    trivial
  · simp [invoke, go_sem, eg]
  · refine (h fn _ rfl).mono ?_
    rintro e W ⟨⟨v, rfl⟩, _, (⟨hl, hq⟩ | ⟨c, hl, hq⟩)⟩
    · exact ⟨none, _, run_endLoop hl (by simp), hq⟩
    · exact ⟨some c, _, run_endLoop hl (by simp), hq⟩

theorem Kpt.marks {F F' : Nat → Prop} {ms : List Nat} {a b c : World} (h : Kpt F a b F') (ht : Turn (fun k => k ∈ ms) b c) (hm : ∀ r ∈ ms, a.heap.size ≤ r) : Kpt F a c F' :=
  ⟨h.turn.trans ht (fun i hi hf => absurd (hm i hf) (by omega)), h.foot⟩

/-- The state of a loop over a part's parts. -/
def inJ (J : Jt) (l' D B2 : Nat) (fv : Value) (c : Code) (t : TypeId) (R : LoopState → Option Code → Obj) : Jt := fun b p G W =>
  ∃ F0, J b p F0 W ∧ (∀ k, G k ↔ (F0 k ∨ k = l' ∨ k = D ∨ k = B2)) ∧ ¬ F0 l' ∧ ¬ F0 D ∧ ¬ F0 B2 ∧
    W.heap[l']? = some (if b = true then R .ready none else R .done (some c)) ∧ W.heap[D]? = some (.deferred (some [])) ∧ Blk W B2 t #[fv]
theorem inJ_ok {w0 : World} {J : Jt} (JO : JOk w0 J) (l' D B2 : Nat) (fv : Value) (c : Code) (t : TypeId) (R : LoopState → Option Code → Obj) : JOk w0 (inJ J l' D B2 fv c t R) := by
  refine ⟨?_, ?_, ?_⟩
  · rintro b p G W ⟨F0, hJ, hG, _, _, _, h1, h2, h3⟩ k hk
    rcases (hG k).1 hk with h | rfl | rfl | rfl
    · exact JO.foot hJ k h
    · exact (Array.getElem?_eq_some_iff.1 h1).1
    · exact (Array.getElem?_eq_some_iff.1 h2).1
    · exact h3.lt
  · rintro b p G W W' ⟨F0, hJ, hG, n1, n2, n3, h1, h2, h3⟩ hT
    have e : ∀ k, G k → k < W.heap.size → W'.heap[k]? = W.heap[k]? := fun k hk hlt => hT.block k hlt (fun hn => hn hk)
    exact ⟨F0, JO.keep hJ (hT.mono (fun k _ hn h => hn ((hG k).2 (.inl h)))), hG, n1, n2, n3,
      (e _ ((hG _).2 (.inr (.inl rfl))) (Array.getElem?_eq_some_iff.1 h1).1).trans h1,
      (e _ ((hG _).2 (.inr (.inr (.inl rfl)))) (Array.getElem?_eq_some_iff.1 h2).1).trans h2,
      h3.keep (e _ ((hG _).2 (.inr (.inr (.inr rfl)))) h3.lt)⟩
  · rintro b p G W ⟨F0, hJ, _⟩
    exact JO.low hJ

/-- Behind a round: the record turned back. -/
theorem inJ_next {w0 : World} {J : Jt} (JO : JOk w0 J) {l' D B2 : Nat} {fv : Value} {c : Code} {t : TypeId} {R : LoopState → Option Code → Obj} (h12 : D ≠ l') (h13 : B2 ≠ l') {q : List (Tree × Value)} {G F0 F0' : Nat → Prop} {W Wb W3 : World} {b : Bool} {X : Obj}
    (hG : ∀ k, G k ↔ (F0 k ∨ k = l' ∨ k = D ∨ k = B2)) (n1 : ¬ F0 l') (n2 : ¬ F0 D) (n3 : ¬ F0 B2) (hD : Wb.heap[D]? = some (.deferred (some []))) (hB : Blk Wb B2 t #[fv])
    (hWb : Turn (fun k => k = l') W Wb) (hl : l' < Wb.heap.size) (hJ3 : J b q F0' W3) (hK3 : Kpt F0 Wb W3 F0') (hX : X = if b = true then R .ready none else R .done (some c)) :
    ∃ F', inJ J l' D B2 fv c t R b q F' (W3.putObj l' X) ∧ Kpt G W (W3.putObj l' X) F' := by
  have hDl := (Array.getElem?_eq_some_iff.1 hD).1
  have hBl := hB.lt
  have hs3 := hK3.turn.size
  have m1 := hK3.foot _ hl n1
  have m2 := hK3.foot _ hDl n2
  have m3 := hK3.foot _ hBl n3
  have hput := turn_put W3 l' X
  refine ⟨fun k => F0' k ∨ k = l' ∨ k = D ∨ k = B2, ⟨F0', JO.keep hJ3 (hput.mono (fun k _ e => by subst e; exact m1)), fun k => Iff.rfl, m1, m2, m3, ?_, ?_, ?_⟩, ?_, ?_⟩
  · rw [World.putObj_heap_same (by omega), hX]
  · rw [World.putObj_heap_other h12, hK3.turn.block _ hDl n2, hD]
  · exact hB.keep ((World.putObj_heap_other h13).trans (hK3.turn.block _ hBl n3))
  · refine ((hWb.mono (G := G) (fun k _ e => (hG k).2 (.inr (.inl e)))).trans hK3.turn (fun k _ hf => (hG k).2 (.inl hf))).trans hput (fun k _ e => (hG k).2 (.inr (.inl e)))
  · intro k hk hn hf
    rw [hG] at hn
    rcases hf with hf | hf
    · exact hK3.foot k (Nat.lt_of_lt_of_le hk hWb.size) (fun h => hn (.inl h)) hf
    · exact hn (.inr hf)

end Go.Proofs.YtcidccifnaecaaaDoor
