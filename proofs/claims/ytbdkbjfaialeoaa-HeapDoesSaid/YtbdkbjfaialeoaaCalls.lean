/- Package heap's methods, each one contract by a total function on the heap's objects. -/
import Derived.Test.YtbdkbjfaialeoaaKeys
import Derived.Test.YtbdkbjfaialeoaaShown
namespace Go.Proofs.Ytbdkbjfaialeoaa
open Go.RowKit Go.Sort

def allocT (os : List Ob) (o : Ox) : (Int × Int) × List Ob :=
  if o.proto ≠ -1 ∧ (o.proto < 0 ∨ os.length ≤ o.proto) then ((0, 2), os)
  else if os.length = 5000 then ((0, 71), os)
  else ((os.length, 0), os ++ [Ob.fresh o])

def putT (os : List Ob) (p : Int) (key : ByteArray) (v : Vl) : Int × List Ob :=
  match objT os p with
  | none => (70, os)
  | some o => if right v.kind v.n v.s = false ∨ (v.kind = 5 ∧ (v.n < 0 ∨ os.length ≤ v.n)) then (2, os) else (0, os.set p.toNat (o.put key v))

def ownT (os : List Ob) (p : Int) (key : ByteArray) : Option Vl := (objT os p).bind fun o => o.vals key.data.toList

def chainF (os : List Ob) : Nat → Int → List Nat
  | 0, _ => []
  | f + 1, p => match objT os p with
    | none => []
    | some o => p.toNat :: chainF os f o.o.proto
def chainT (os : List Ob) (p : Int) : List Nat := chainF os (p + 1).toNat p
def getT (os : List Ob) (p : Int) (key : ByteArray) : Option Vl := (chainT os p).findSome? fun i => (os[i]?).bind fun o => o.vals key.data.toList

theorem chainF_chain {os : List Ob} (h : Tied os) : ∀ (f : Nat) (p : Int), p < f → Chain os p (chainF os f p) := by
  intro f
  induction f with
  | zero => exact fun p hp => .stop (.inl (by omega))
  | succ f ih =>
    intro p hp
    by_cases hq : p < 0 ∨ os.length ≤ p
    · rw [chainF, objT_out hq]
      exact .stop hq
    · obtain ⟨k, o, rfl, ho, hoT⟩ := objT_in hq
      rw [chainF, hoT]
      exact .step ho (ih _ (by have := (h k o ho).2; omega))
theorem chainT_chain {os : List Ob} (h : Tied os) (p : Int) : Chain os p (chainT os p) := chainF_chain h _ _ (by omega)
theorem Chain.uniq {os : List Ob} {p : Int} {l m : List Nat} (h : Chain os p l) (k : Chain os p m) : l = m := by
  induction h generalizing m with
  | stop h =>
    cases k with
    | stop _ => rfl
    | step ho _ => have := (List.getElem?_eq_some_iff.1 ho).1; omega
  | step ho _ ih =>
    cases k with
    | stop h => have := (List.getElem?_eq_some_iff.1 ho).1; omega
    | step ho' hc' =>
      rw [ho] at ho'
      injection ho' with ho'
      subst ho'
      rw [ih hc']

theorem tied_alloc {os : List Ob} (h : Tied os) (o : Ox) : Tied (allocT os o).2 := by
  unfold allocT
  split
  · exact h
  · split
    · exact h
    · rename_i h1 _
      intro i x hx
      rcases Nat.lt_or_ge i os.length with hi | hi
      · rw [List.getElem?_append_left hi] at hx
        exact h i x hx
      · rw [List.getElem?_append_right hi] at hx
        have : i = os.length := by
          have := (List.getElem?_eq_some_iff.1 hx).1
          simp at this
          omega
        subst this
        simp at hx
        subst hx
        simp only [Ob.fresh]
        omega
theorem tied_put {os : List Ob} (h : Tied os) (p : Int) (key : ByteArray) (v : Vl) : Tied (putT os p key v).2 := by
  unfold putT
  by_cases hq : p < 0 ∨ os.length ≤ p
  · rw [objT_out hq]; exact h
  · obtain ⟨k, o, rfl, ho, hoT⟩ := objT_in hq
    rw [hoT]
    show Tied (if _ then _ else _ : Int × List Ob).2
    split
    · exact h
    · intro i x hx
      show _ ≤ _ ∧ _
      rw [show ((k : Int)).toNat = k by omega] at hx
      by_cases hik : k = i
      · subst hik
        have hlt := (List.getElem?_eq_some_iff.1 ho).1
        rw [List.getElem?_set_self hlt] at hx
        injection hx with hx
        subst hx
        exact h k o ho
      · rw [List.getElem?_set_ne hik] at hx
        exact h i x hx

/-- No object has more than n keys. -/
def Small (n : Nat) (os : List Ob) : Prop := ∀ o ∈ os, o.keys.length ≤ n
theorem small_alloc {n : Nat} {os : List Ob} (h : Small n os) (o : Ox) : Small n (allocT os o).2 := by
  unfold allocT
  split
  · exact h
  · split
    · exact h
    · intro x hx
      rcases List.mem_append.1 hx with hx | hx
      · exact h x hx
      · simp at hx
        subst hx
        simp [Ob.fresh]
theorem small_put {n : Nat} {os : List Ob} (h : Small n os) (p : Int) (key : ByteArray) (v : Vl) : Small (n + 1) (putT os p key v).2 := by
  have h1 : Small (n + 1) os := fun o ho => Nat.le_succ_of_le (h o ho)
  unfold putT
  cases ho : objT os p with
  | none => exact h1
  | some o =>
    show Small (n + 1) (if _ then _ else _ : Int × List Ob).2
    split
    · exact h1
    · intro x hx
      rcases List.mem_or_eq_of_mem_set hx with hx | rfl
      · exact h1 x hx
      · have hm : o ∈ os := by
          unfold objT at ho
          split at ho
          · exact List.mem_of_getElem? ho
          · cases ho
        have := h o hm
        unfold Ob.put
        dsimp only
        split
        · omega
        · simp; omega
theorem allocT_len (os : List Ob) (o : Ox) : os.length ≤ (allocT os o).2.length ∧ (allocT os o).2.length ≤ os.length + 1 := by
  unfold allocT
  split
  · simp
  · split <;> simp
theorem putT_len (os : List Ob) (p : Int) (key : ByteArray) (v : Vl) : (putT os p key v).2.length = os.length := by
  unfold putT
  cases objT os p with
  | none => rfl
  | some o =>
    show (if _ then _ else _ : Int × List Ob).2.length = _
    split <;> simp

theorem Grew.same {w w' : World} {B hb : Nat} {F : Nat → Prop} {os : List Ob} (h : Hp w B hb F os) (hb' : Below w.heap.size w w') : Grew w B hb F os w' :=
  ⟨F, h.below hb', (Turn.of_below hb').mono (fun _ _ x => x.elim), fun _ h => .inl h⟩

theorem alloc_calls (w : World) (B hb : Nat) (F : Nat → Prop) (os : List Ob) (o : Ox) (h : Hp w B hb F os) (hB : B ≤ w.heap.size) (hlen : os.length ≤ 5000) :
    Calls Try.prog 13 #[.pointer (some ⟨hb, 0, none⟩), .agg #[.int .i64 o.mark, .int .i64 o.proto, .int .i64 o.code, .int .i64 o.frame]] w fun e w' =>
      e = .returned (.tuple #[.int .i64 (allocT os o).1.1, .int .i64 (allocT os o).1.2]) ∧ Grew w B hb F (allocT os o).2 w' := by
  obtain ⟨A, cap, hc⟩ := h.cell
  unfold allocT
  by_cases h1 : o.proto ≠ -1 ∧ (o.proto < 0 ∨ os.length ≤ o.proto)
  · rw [if_pos h1]
    refine (alloc_arg w hb os.length cap A o hc h1.1 h1.2).mono ?_
    rintro e w' ⟨rfl, hb'⟩
    exact ⟨rfl, Grew.same h hb'⟩
  · rw [if_neg h1]
    by_cases h2 : os.length = 5000
    · rw [if_pos h2]
      rw [h2] at hc
      refine (alloc_full w hb cap A o hc (by omega)).mono ?_
      rintro e w' ⟨rfl, hb'⟩
      exact ⟨rfl, Grew.same h hb'⟩
    · rw [if_neg h2]
      exact alloc_ok w B hb F os o h hB (by omega) (by omega)

theorem hput_calls (w : World) (B hb : Nat) (F : Nat → Prop) (os : List Ob) (p : Int) (key : ByteArray) (v : Vl) (h : Hp w B hb F os) (hB : B ≤ w.heap.size) (hkey : key.size ≤ maxLen) (hn : Small 100000 os) :
    Calls Try.prog 16 #[.pointer (some ⟨hb, 0, none⟩), .int .i64 p, .string key, .agg #[.int .i64 v.kind, .int .i64 v.n, .string v.s]] w fun e w' =>
      e = .returned (.int .i64 (putT os p key v).1) ∧ Grew w B hb F (putT os p key v).2 w' := by
  obtain ⟨A, cap, hc⟩ := h.cell
  unfold putT
  by_cases hq : p < 0 ∨ os.length ≤ p
  · rw [objT_out hq]
    refine (hput_place w hb os.length cap A p key v.kind v.n v.s hc hq).mono ?_
    rintro e w' ⟨rfl, hb'⟩
    exact ⟨rfl, Grew.same h hb'⟩
  · obtain ⟨k, o, rfl, ho, hoT⟩ := objT_in hq
    rw [hoT]
    dsimp only
    rw [show ((k : Int)).toNat = k by omega]
    by_cases hr : right v.kind v.n v.s = false
    · rw [if_pos (.inl hr)]
      refine (hput_arg w hb os.length cap A k key v.kind v.n v.s hc (by omega) (by omega) hr).mono ?_
      rintro e w' ⟨rfl, hb'⟩
      exact ⟨rfl, Grew.same h hb'⟩
    · by_cases h5 : v.kind = 5
      · by_cases hnn : v.n < 0 ∨ os.length ≤ v.n
        · rw [if_pos (.inr ⟨h5, hnn⟩)]
          refine (hput_ref w hb os.length cap A k key v.kind v.n v.s hc (by omega) (by omega) (by simpa using hr) h5 hnn).mono ?_
          rintro e w' ⟨rfl, hb'⟩
          exact ⟨rfl, Grew.same h hb'⟩
        · rw [if_neg (by rintro (x | x); exact hr x; exact hnn x.2)]
          exact hput_okref w B hb F os k o key v.kind v.n v.s h hB ho (by simpa using hr) hkey (hn o (List.mem_of_getElem? ho)) h5 (by omega) (by omega)
      · rw [if_neg (by rintro (x | x); exact hr x; exact h5 x.1)]
        exact hput_ok w B hb F os k o key v.kind v.n v.s h hB ho (by simpa using hr) hkey (hn o (List.mem_of_getElem? ho)) (by simpa using h5)

theorem own_calls (w : World) (B hb : Nat) (F : Nat → Prop) (os : List Ob) (p : Int) (key : ByteArray) (h : Hp w B hb F os) (hk : key.size ≤ maxLen) :
    Calls Try.prog 19 #[.pointer (some ⟨hb, 0, none⟩), .int .i64 p, .string key] w fun e w' => e = .returned (told (ownT os p key)) ∧ Below w.heap.size w w' := by
  obtain ⟨A, cap, hc⟩ := h.cell
  have hlt : hb < w.heap.size := World.block_lt_of_cell? w _ hc
  unfold ownT
  by_cases hq : p < 0 ∨ os.length ≤ p
  · rw [objT_out hq]
    exact own_out w p key _ (fun w1 hb1 => has_out w1 hb os.length cap A p ((hb1.cell (p := ⟨hb, 0, none⟩) hlt).trans hc) hq)
  · obtain ⟨k, o, rfl, ho, hoT⟩ := objT_in hq
    rw [hoT]
    exact own_in w B hb F os k o key h ho hk

theorem hget_calls (w : World) (B hb : Nat) (F : Nat → Prop) (os : List Ob) (p : Int) (key : ByteArray) (h : Hp w B hb F os) (hT : Tied os) (hk : key.size ≤ maxLen) :
    Calls Try.prog 15 #[.pointer (some ⟨hb, 0, none⟩), .int .i64 p, .string key] w fun e w' => e = .returned (told (getT os p key)) ∧ Below w.heap.size w w' :=
  get_calls w B hb F os p (chainT os p) key h hT (chainT_chain hT p) hk

def Ox.agg (o : Ox) : Value := .agg #[.int .i64 o.mark, .int .i64 o.proto, .int .i64 o.code, .int .i64 o.frame]
def toldO (o : Option Ob) : Value := match o with
  | some o => .tuple #[.agg #[.int .i64 o.o.mark, .int .i64 o.o.proto, .int .i64 o.o.code, .int .i64 o.o.frame], .int .i64 0]
  | none => .tuple #[.agg #[.int .i64 0, .int .i64 0, .int .i64 0, .int .i64 0], .int .i64 70]
theorem hobj_calls (w : World) (B hb : Nat) (F : Nat → Prop) (os : List Ob) (p : Int) (h : Hp w B hb F os) :
    Calls Try.prog 22 #[.pointer (some ⟨hb, 0, none⟩), .int .i64 p] w fun e w' => e = .returned (toldO (objT os p)) ∧ Below w.heap.size w w' := by
  obtain ⟨A, cap, hc⟩ := h.cell
  by_cases hq : p < 0 ∨ os.length ≤ p
  · rw [objT_out hq]
    exact obj_out w hb os.length cap A p hc hq
  · obtain ⟨k, o, rfl, ho, hoT⟩ := objT_in hq
    rw [hoT]
    exact obj_in w B hb F os k o h ho

theorem hlen_calls (w : World) (B hb : Nat) (F : Nat → Prop) (os : List Ob) (h : Hp w B hb F os) :
    Calls Try.prog 14 #[.pointer (some ⟨hb, 0, none⟩)] w fun e w' => e = .returned (.int .i64 os.length) ∧ w = w' := by
  obtain ⟨A, cap, hc⟩ := h.cell
  exact len_calls w hb os.length cap A hc

/-- A law's heap between two of its calls. -/
structure St (w W : World) (hb : Nat) (F : Nat → Prop) (os : List Ob) : Prop where
  hp : Hp W hb hb F os
  bel : Below w.heap.size w W
  low : ∀ k, F k → w.heap.size ≤ k
  hbw : hb ≤ W.heap.size
theorem St.below {w W W' : World} {hb : Nat} {F : Nat → Prop} {os : List Ob} (h : St w W hb F os) (h' : Below W.heap.size W W') : St w W' hb F os :=
  ⟨h.hp.below h', h.bel.trans (h'.mono h.bel.size), h.low, Nat.le_trans h.hbw h'.size⟩
theorem St.grew {w W W' : World} {hb : Nat} {F : Nat → Prop} {os os' : List Ob} (h : St w W hb F os) (h' : Grew W hb hb F os' W') :
    ∃ F', St w W' hb F' os' ∧ (∀ k, k < W.heap.size → ¬ F k → ¬ F' k) ∧ Turn F W W' := by
  obtain ⟨F', h1, h2, h3⟩ := h'
  refine ⟨F', ⟨h1, h.bel.trans (h2.below h.bel.size h.low), fun k hk => ?_, Nat.le_trans h.hbw h2.size⟩, fun k hk hn hk' => ?_, h2⟩
  · rcases h3 k hk with h4 | h4
    · exact h.low k h4
    · exact Nat.le_trans h.bel.size h4
  · rcases h3 k hk' with h4 | h4
    · exact hn h4
    · omega
theorem new_st (w w0 : World) (h : Below w.heap.size w w0) : Calls Try.prog 12 #[] w0 fun e w' => e = .returned (.pointer (some ⟨w0.heap.size, 0, none⟩)) ∧
    ∃ F, St w w' w0.heap.size F first4 ∧ (∀ k, k < w0.heap.size → ¬ F k) ∧ Below w0.heap.size w0 w' := by
  refine (new_calls w0).mono ?_
  rintro e w2 ⟨rfl, F, hp, hb2, hF⟩
  exact ⟨rfl, F, ⟨hp, h.trans (hb2.mono h.size), fun k hk => Nat.le_trans h.size (hF k hk), hb2.size⟩, fun k hk hf => by have := hF k hf; omega, hb2⟩

theorem told_none : told none = .tuple #[.agg #[.int .i64 0, .int .i64 0, .string ⟨#[]⟩], .bool false] := rfl
theorem told_some (v : Vl) : told (some v) = .tuple #[.agg #[.int .i64 v.kind, .int .i64 v.n, .string v.s], .bool true] := rfl

end Go.Proofs.Ytbdkbjfaialeoaa
