/- The program's words, IsWord, IsName, walked. -/
import Derived.Test.YtcidccifnaecaaaDoorFseq
import Derived.Shelf.Abstract
import Derived.Shelf.RegionOpen
namespace Go.Proofs.YtcidccifnaecaaaDoor
open Go.RowKit Go.Shelf
attribute [local go_sem] Oper.semAt_some

theorem VMap.ext {P : Program} {k : TypeId} {w : World} {b n : Nat} {f g : List UInt8 → Option Value} (h : VMap P k w b n f) (e : ∀ x, f x = g x) : VMap P k w b n g := by
  obtain rfl : f = g := funext e
  exact h
theorem VMap.look1 {P : Program} {k : TypeId} {w : World} {b n : Nat} {f : List UInt8 → Option Value} (h : VMap P k w b n f) (hu : P.underlying k = some .string) {t e : TypeId} (ht : P.underlying t = some (.map k e)) {z : Value} (hz : (zeroValue e).run P w = .ok z w)
    {s : ByteArray} (hs : s.size ≤ maxLen) : (Instr.lookup t (.map (some b)) (.string s) false).run P w = .ok ((f s.data.toList).getD z) w := by
  obtain ⟨D, h1, h2, h3⟩ := h
  obtain ⟨v, ps, hrun, hv⟩ := h1.lookup (Maps.string_keyed hu) ht hz (zd := .held z) (zp := []) rfl (Go.WideMaps.keyOf_string_mk hu hs)
  rw [hrun]
  cases hf : f s.data.toList with
  | none =>
    have := Maps.atKey_of_not_has (D := D) (k := .string s.data.toList) (by rw [h2, hf]; rfl) (.held z)
    rw [this] at hv
    simp only [heldR, Option.some.injEq, Prod.mk.injEq, DataW.held.injEq] at hv
    rw [hv.1]
    rfl
  | some u =>
    rw [h3 _ _ hf] at hv
    simp only [heldR, Option.some.injEq, Prod.mk.injEq, DataW.held.injEq] at hv
    rw [hv.1]
    rfl

/-- What the map holds when the iterator has come so far. -/
def seenF (k : Nat) (s : List UInt8) : Option Value := if seenW s k then some (.bool true) else none

/-- Between two rounds. -/
structure WordsJ (w : World) (st : Obj) (k : Nat) (W : World) : Prop where
  rc : W.heap[w.heap.size + 1 + 1 + 1 + 1]? = some st
  dd : W.heap[w.heap.size + 1 + 1 + 1]? = some (.deferred (some []))
  out : W.cell? ⟨w.heap.size + 1, 0, none⟩ = some (.map (some w.heap.size))
  map : VMap Tryd.prog 9 W w.heap.size k (seenF k)
  box : W.cell? ⟨w.heap.size + 1 + 1, 0, none⟩ = some (.string wordsText)
  laid : Laid W
  low : Below w.heap.size w W

theorem WordsJ.turned {w : World} {st : Obj} {k : Nat} {W : World} (h : WordsJ w st k W) (hl0 : Laid w) (st' : Obj) : WordsJ w st' k (W.putObj (w.heap.size + 1 + 1 + 1 + 1) st') := by
  have hlt := (Array.getElem?_eq_some_iff.1 h.rc).1
  have ho : ∀ j, j ≠ w.heap.size + 1 + 1 + 1 + 1 → (W.putObj (w.heap.size + 1 + 1 + 1 + 1) st').heap[j]? = W.heap[j]? := fun j hj => World.putObj_heap_other hj
  have hb := h.low.grown (grownBy_putObj' W (w.heap.size + 1 + 1 + 1 + 1) st') h.low.size (fun k e => by injection e with e; omega)
  exact ⟨World.putObj_heap_same hlt, (ho _ (by omega)).trans h.dd, (World.cell?_of_block (ho _ (by simp))).trans h.out, h.map.keep (ho _ (by omega)), (World.cell?_of_block (ho _ (by simp))).trans h.box, hl0.below hb, hb⟩

/-- One word more. -/
theorem WordsJ.put {w : World} {st : Obj} {k : Nat} {W W' : World} (h : WordsJ w st k W) (hl0 : Laid w) (hg : W.grownBy W' (some w.heap.size)) {n : Nat} (hn : n ≤ k + 1) {f : List UInt8 → Option Value} (hm : VMap Tryd.prog 9 W' w.heap.size n f) (hf : ∀ x, f x = seenF (k + 1) x) : WordsJ w st (k + 1) W' := by
  have hlt := (Array.getElem?_eq_some_iff.1 h.rc).1
  have ho : ∀ j, j < W.heap.size → j ≠ w.heap.size → W'.heap[j]? = W.heap[j]? := fun j hj hne => hg.block j hj (fun e => hne (by injection e))
  have hb := h.low.grown hg h.low.size (fun k e => by injection e with e; omega)
  exact ⟨(ho _ hlt (by omega)).trans h.rc, (ho (w.heap.size + 1 + 1 + 1) (by omega) (by omega)).trans h.dd, (World.cell?_of_block (ho (w.heap.size + 1) (by omega) (by omega))).trans h.out, (hm.mono hn).ext hf,
    (World.cell?_of_block (ho (w.heap.size + 1 + 1) (by omega) (by omega))).trans h.box, hl0.below hb, hb⟩

theorem WordsJ.turnedD {w : World} {st : Obj} {k : Nat} {W : World} (h : WordsJ w st k W) : VMap Tryd.prog 9 (W.putObj (w.heap.size + 1 + 1 + 1) (.deferred none)) w.heap.size k (seenF k) ∧ Below w.heap.size w (W.putObj (w.heap.size + 1 + 1 + 1) (.deferred none)) := by
  have hb := h.low.grown (grownBy_putObj' W (w.heap.size + 1 + 1 + 1) (.deferred none)) h.low.size (fun k e => by injection e with e; omega)
  exact ⟨h.map.keep (World.putObj_heap_other (by omega)), hb⟩
theorem alloc5 (w : World) (a b c d e : Obj) (k : Nat) : (((((w.alloc a).alloc b).alloc c).alloc d).alloc e).heap[k]? =
    if k = w.heap.size then some a else if k = w.heap.size + 1 then some b else if k = w.heap.size + 1 + 1 then some c else if k = w.heap.size + 1 + 1 + 1 then some d else if k = w.heap.size + 1 + 1 + 1 + 1 then some e else w.heap[k]? := by
  show (((((w.heap.push a).push b).push c).push d).push e)[k]? = _
  simp only [Array.getElem?_push, Array.size_push]
  split <;> rename_i h5
  · subst h5
    rw [if_neg (by omega), if_neg (by omega), if_neg (by omega), if_neg (by omega)]
  · split <;> rename_i h4
    · subst h4
      rw [if_neg (by omega), if_neg (by omega), if_neg (by omega)]
    · split <;> rename_i h3
      · subst h3
        rw [if_neg (by omega), if_neg (by omega)]
      · split <;> rename_i h2
        · subst h2
          rw [if_neg (by omega)]
        · rfl
theorem wordsJ_init (w : World) (hl0 : Laid w) (st : Obj) : WordsJ w st 0 (((((w.alloc (.map #[] 0)).alloc (.cells #[.map (some w.heap.size)] 65)).alloc (.cells #[.string wordsText] 9)).alloc (.deferred (some []))).alloc st) := by
  have hb : Below w.heap.size w (((((w.alloc (.map #[] 0)).alloc (.cells #[.map (some w.heap.size)] 65)).alloc (.cells #[.string wordsText] 9)).alloc (.deferred (some []))).alloc st) :=
    ((((((Below.refl _ w).alloc (Nat.le_refl _) _).alloc (by simp) _).alloc (by simp; omega) _).alloc (by simp; omega) _).alloc (by simp; omega) _)
  refine ⟨?_, ?_, ?_, ?_, ?_, hl0.below hb, hb⟩
  · rw [alloc5, if_neg (by omega), if_neg (by omega), if_neg (by omega), if_neg (by omega), if_pos rfl]
  · rw [alloc5, if_neg (by omega), if_neg (by omega), if_neg (by omega), if_pos rfl]
  · refine (cell_of_row _ _ 0 #[.map (some w.heap.size)] 65 (0, 0) ?_).trans rfl
    rw [alloc5, if_neg (by omega), if_pos rfl]
  · refine ((VMap.made w Tryd.prog 9).keep ?_).ext (fun x => by unfold seenF; rw [seenW]; rfl)
    rw [alloc5, if_pos rfl]
    exact (heap_alloc_new _ _).symm
  · refine (cell_of_row _ _ 0 #[.string wordsText] 9 (0, 0) ?_).trans rfl
    rw [alloc5, if_neg (by omega), if_neg (by omega), if_pos rfl]
theorem calls_arg {P : Program} {f : FuncId} {a b : Value} {w : World} {Q : Ending → World → Prop} (h : a = b) (hc : Calls P f #[b] w Q) : Calls P f #[a] w Q := by rwa [h]

theorem WordsJ.skip {w : World} {st : Obj} {k : Nat} {W : World} (h : WordsJ w st k W) (he : endAt k = false) : WordsJ w st (k + 1) W := by
  refine ⟨h.rc, h.dd, h.out, (h.map.mono (Nat.le_succ _)).ext (fun x => ?_), h.box, h.laid, h.low⟩
  unfold seenF
  rw [seenW, he]
  simp
theorem seenF_put (k : Nat) (he : endAt k = true) (x : List UInt8) : (if x = wordTo k then some (Value.bool true) else seenF k x) = seenF (k + 1) x := by
  unfold seenF
  rw [seenW, he]
  by_cases hx : x = wordTo k
  · rw [if_pos hx, hx]
    simp
  · have hx' : ¬ wordTo k = x := fun h => hx h.symm
    rw [if_neg hx]
    simp [hx']

set_option maxRecDepth 100000 in
set_option maxHeartbeats 4000000 in
theorem words_calls (w : World) (hl0 : Laid w) :
    Calls Tryd.prog 58 #[] w fun e w' => e = .returned (.map (some w.heap.size)) ∧ VMap Tryd.prog 9 w' w.heap.size 188 (seenF 188) ∧ Below w.heap.size w w' := by
  refine (callsIn_wide (n := 5)).1 (callsIn_of_wp_marks Tryd.func58 rfl trivial (wpIn_wide.2 ?_) rfl)
  simp only [Tryd.ntmps58, List.size_toArray, List.length_nil, Nat.reduceSub, Array.replicate_succ, Array.replicate_zero, List.push_toArray, List.append_toArray, List.nil_append, List.cons_append]
  have hmm := @run_makeMap Tryd.prog
  go_wp2_with fail
  refine calls_arg (b := .string wordsText) (by kernel_rfl) ?_
  refine (fseq_calls _ _).mono ?_
  rintro e w' ⟨rfl, rfl⟩
  go_wp2
  refine wpIn_wide.1 (range_outer (n := 5) rfl (by omega) (gf := 117) (lb := #[.pointer (some ⟨w.heap.size + 1 + 1, 0, none⟩)]) rfl trivial (enters_of Tryd.func117 (by kernel_rfl) rfl) ?_)
  intro fn R _ hR
  simp only [World.size_alloc] at hR ⊢
  refine (fseq1_in 4 _ (w.heap.size + 1 + 1) wordsText rfl (fun k W => WordsJ w (R .ready none) k W) (fun k W hj => ⟨hj.laid, hj.box⟩) (fun k W _ he hj => hj.skip he) ?_ _ ?_).mono ?_
  · intro k W hk he hj
    obtain ⟨y, hy⟩ : ∃ y, wordsText.extract (fromAt k) k = y := ⟨_, rfl⟩
    have hyl : y.data.toList = wordTo k := by rw [← hy, extract_list]; rfl
    have hys : y.size ≤ maxLen := by rw [← hy, ByteArray.size_extract]; unfold maxLen; have := words_size; omega
    rw [hy]
    clear hy
    refine (yield_of hR (fun W' => WordsJ w (R .ready none) (k + 1) W') (fun _ _ => False) trivial hj.rc rfl ?_).mono ?_
    · clear hR
      gi_wp2
      refine ⟨hj.rc, ?_⟩
      have hj1 := hj.turned hl0 (R .busy none)
      obtain ⟨W1, hW1⟩ : ∃ W1, W.putObj (w.heap.size + 1 + 1 + 1 + 1) (R .busy none) = W1 := ⟨_, rfl⟩
      rw [hW1] at hj1 ⊢
      clear hW1 hj
      have hout := hj1.out
      obtain ⟨W2, hst, hm2, hg2⟩ := hj1.map.store Tryd.underlying9 Tryd.underlying65 (by unfold maxLen; omega) (s := y) hys (.bool true)
      rw [hyl] at hm2
      have HJ2 : Hid (WordsJ w (R .busy none) (k + 1) W2) := Lib.hid (hj1.put hl0 hg2 (by split <;> omega) hm2 (seenF_put k he))
      clear hm2 hg2 hj1 hyl
      gi_wp2
      exact ⟨HJ2.out.rc, HJ2.out.turned hl0 (R .ready none)⟩
    · rintro e W' (⟨rfl, h1⟩ | ⟨rfl, c, h1⟩)
      · exact ⟨rfl, h1⟩
      · exact h1.elim
  · exact wordsJ_init w hl0 _
  · rintro e W ⟨hv, hj⟩
    refine ⟨hv, hj.dd, .inl ⟨hj.rc, ?_⟩⟩
    clear hR
    have hj1 := hj.turned hl0 (R .exhausted none)
    obtain ⟨W1, hW1⟩ : ∃ W1, W.putObj (w.heap.size + 1 + 1 + 1 + 1) (R .exhausted none) = W1 := ⟨_, rfl⟩
    rw [hW1] at hj1 ⊢
    clear hW1 hj
    have hout := hj1.out
    have HJ1 := Lib.hid hj1
    clear hj1
    go_wp2
    refine ⟨by simp, .inl ⟨_, _, rfl, run_takeDeferred HJ1.out.dd, ?_⟩⟩
    have hd := HJ1.out.turnedD
    refine ⟨.map (some w.heap.size), ?_, rfl, hd.1, hd.2⟩
    simp [results, Tryd.f58, go_sem]

end Go.Proofs.YtcidccifnaecaaaDoor
