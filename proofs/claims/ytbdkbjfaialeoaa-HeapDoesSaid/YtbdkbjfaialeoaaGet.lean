/- Get of package heap. -/
import Derived.Test.YtbdkbjfaialeoaaIter
namespace Go.Proofs.Ytbdkbjfaialeoaa
open Go.RowKit Go.Shelf Go.Sort
attribute [local go_sem] Oper.semAt_some

/-- Between two rounds of Get. -/
structure GetJ (w : World) (B : Nat) (hb : Option Nat) (lv : Value) (Ls : List Lo) (os : List Ob) (key : ByteArray) (st : Obj) (pre : List Nat) (W : World) : Prop where
  rc : W.heap[w.heap.size + 1 + 1 + 1 + 1 + 1 + 1 + 1]? = some st
  dd : W.heap[w.heap.size + 1 + 1 + 1 + 1 + 1 + 1]? = some (.deferred (some []))
  hat : HpO W B hb lv Ls os
  kb : Blk W w.heap.size 9 #[.string key]
  rb : Blk W (w.heap.size + 1) 33 #[.int .i64 0, .int .i64 0, .string ⟨#[]⟩]
  vb : Blk W (w.heap.size + 1 + 1) 33 #[.int .i64 0, .int .i64 0, .string ⟨#[]⟩]
  fb : Blk W (w.heap.size + 1 + 1 + 1) 4 #[.bool false]
  bh : Blk W (w.heap.size + 1 + 1 + 1 + 1) 23 #[ptrO hb]
  bp : ∃ v, Blk W (w.heap.size + 1 + 1 + 1 + 1 + 1) 3 #[v]
  low : Below w.heap.size w W
  no : ∀ i ∈ pre, ((os[i]?).bind fun o => o.vals key.data.toList) = none

/-- Where a round has found it. -/
structure GetX (w : World) (os : List Ob) (key : ByteArray) (st : Obj) (ps : List Nat) (W : World) : Prop where
  rc : W.heap[w.heap.size + 1 + 1 + 1 + 1 + 1 + 1 + 1]? = some st
  dd : W.heap[w.heap.size + 1 + 1 + 1 + 1 + 1 + 1]? = some (.deferred (some []))
  rb : Blk W (w.heap.size + 1) 33 #[.int .i64 0, .int .i64 0, .string ⟨#[]⟩]
  fb : Blk W (w.heap.size + 1 + 1 + 1) 4 #[.bool true]
  low : Below w.heap.size w W
  yes : ∃ u, (ps.findSome? fun i => (os[i]?).bind fun o => o.vals key.data.toList) = some u ∧ Blk W (w.heap.size + 1 + 1) 33 #[.int .i64 u.kind, .int .i64 u.n, .string u.s]

theorem putObj_old {W : World} {r k : Nat} {o : Obj} (h : k ≠ r) : (W.putObj r o).heap[k]? = W.heap[k]? := World.putObj_heap_other h

/-- The record turned: all else stays. -/
theorem GetJ.turned {w : World} {B : Nat} {hb : Option Nat} {lv : Value} {Ls : List Lo} {os : List Ob} {key : ByteArray} {st : Obj} {pre : List Nat} {W : World} (h : GetJ w B hb lv Ls os key st pre W) (hat : HpO w B hb lv Ls os) (st' : Obj) :
    GetJ w B hb lv Ls os key st' pre (W.putObj (w.heap.size + 1 + 1 + 1 + 1 + 1 + 1 + 1) st') := by
  have hlt := (Array.getElem?_eq_some_iff.1 h.rc).1
  refine ⟨World.putObj_heap_same hlt, (putObj_old (by omega)).trans h.dd, h.hat.keep (fun k hk => putObj_old (by have := hat.foot k hk; omega)), h.kb.keep (putObj_old (by omega)), h.rb.keep (putObj_old (by omega)), h.vb.keep (putObj_old (by omega)),
    h.fb.keep (putObj_old (by omega)), h.bh.keep (putObj_old (by omega)), ?_, ?_, h.no⟩
  · obtain ⟨v, hv⟩ := h.bp
    exact ⟨v, hv.keep (putObj_old (by omega))⟩
  · exact h.low.grown (grownBy_putObj' W _ st') h.low.size (fun k e => by cases e; omega)

/-- What a round stores. -/
def getStore (w : World) (k n : Int) (s : ByteArray) (b : Bool) (W : World) : World :=
  ((((W.setCell ⟨w.heap.size + 1 + 1, 0, none⟩ (.int .i64 k)).setCell ⟨w.heap.size + 1 + 1, 1, none⟩ (.int .i64 n)).setCell ⟨w.heap.size + 1 + 1, 2, none⟩ (.string s)).setCell ⟨w.heap.size + 1 + 1 + 1, 0, none⟩ (.bool b)).drew

theorem getStore_old {w W : World} {k n : Int} {s : ByteArray} {b : Bool} {j : Nat} (h1 : j ≠ w.heap.size + 1 + 1) (h2 : j ≠ w.heap.size + 1 + 1 + 1) : (getStore w k n s b W).heap[j]? = W.heap[j]? := by
  unfold getStore
  show (World.setCell _ _ _).heap[j]? = _
  rw [Below.heap_setCell _ _ _ _ h2, Below.heap_setCell _ _ _ _ h1, Below.heap_setCell _ _ _ _ h1, Below.heap_setCell _ _ _ _ h1]

theorem getStore_vb {w W : World} {k n : Int} {s : ByteArray} {b : Bool} {k0 n0 : Int} {s0 : ByteArray} (h : Blk W (w.heap.size + 1 + 1) 33 #[.int .i64 k0, .int .i64 n0, .string s0]) :
    Blk (getStore w k n s b W) (w.heap.size + 1 + 1) 33 #[.int .i64 k, .int .i64 n, .string s] := by
  have h1 := (((h.set_ 0 (.int .i64 k)).set_ 1 (.int .i64 n)).set_ 2 (.string s)).far (p := ⟨w.heap.size + 1 + 1 + 1, 0, none⟩) (by simp) (.bool b)
  simp only [Array.setIfInBounds, List.size_toArray] at h1
  exact h1
theorem getStore_fb {w W : World} {k n : Int} {s : ByteArray} {b b0 : Bool} (h : Blk W (w.heap.size + 1 + 1 + 1) 4 #[.bool b0]) : Blk (getStore w k n s b W) (w.heap.size + 1 + 1 + 1) 4 #[.bool b] := by
  have h1 := (((h.far (p := ⟨w.heap.size + 1 + 1, 0, none⟩) (by simp) (.int .i64 k)).far (p := ⟨w.heap.size + 1 + 1, 1, none⟩) (by simp) (.int .i64 n)).far (p := ⟨w.heap.size + 1 + 1, 2, none⟩) (by simp) (.string s)).set_ 0 (.bool b)
  simp only [Array.setIfInBounds, List.size_toArray] at h1
  exact h1
theorem getStore_low {w W : World} {k n : Int} {s : ByteArray} {b : Bool} (h : Below w.heap.size w W) : Below w.heap.size w (getStore w k n s b W) :=
  ((((h.setCell (p := ⟨w.heap.size + 1 + 1, 0, none⟩) (by simp; omega) _).setCell (p := ⟨w.heap.size + 1 + 1, 1, none⟩) (by simp; omega) _).setCell (p := ⟨w.heap.size + 1 + 1, 2, none⟩) (by simp; omega) _).setCell (p := ⟨w.heap.size + 1 + 1 + 1, 0, none⟩) (by simp; omega) _).drew

theorem GetJ.missed {w : World} {B : Nat} {hb : Option Nat} {lv : Value} {Ls : List Lo} {os : List Ob} {key : ByteArray} {st : Obj} {pre : List Nat} {W : World} {i : Nat} {o : Ob} (h : GetJ w B hb lv Ls os key st pre W) (hat : HpO w B hb lv Ls os)
    (ho : os[i]? = some o) (hv : o.vals key.data.toList = none) : GetJ w B hb lv Ls os key st (pre ++ [i]) (getStore w 0 0 ⟨#[]⟩ false W) := by
  refine ⟨(getStore_old (by omega) (by omega)).trans h.rc, (getStore_old (by omega) (by omega)).trans h.dd, h.hat.keep (fun k hk => getStore_old (by have := hat.foot k hk; omega) (by have := hat.foot k hk; omega)),
    h.kb.keep (getStore_old (by omega) (by omega)), h.rb.keep (getStore_old (by omega) (by omega)), getStore_vb h.vb, getStore_fb h.fb, h.bh.keep (getStore_old (by omega) (by omega)), ?_, getStore_low h.low, ?_⟩
  · obtain ⟨v, hv⟩ := h.bp
    exact ⟨v, hv.keep (getStore_old (by omega) (by omega))⟩
  · intro j hj
    rcases List.mem_append.1 hj with hj | hj
    · exact h.no j hj
    · simp at hj
      subst hj
      simp [ho, hv]

theorem find_pre {α β : Type} {f : α → Option β} : ∀ {pre : List α} {rest : List α}, (∀ i ∈ pre, f i = none) → (pre ++ rest).findSome? f = rest.findSome? f
  | [], _, _ => rfl
  | x :: pre, rest, h => by
    rw [List.cons_append, List.findSome?_cons, h x (by simp)]
    exact find_pre (fun i hi => h i (by simp [hi]))

theorem GetJ.hit {w : World} {B : Nat} {hb : Option Nat} {lv : Value} {Ls : List Lo} {os : List Ob} {key : ByteArray} {st : Obj} {pre rest ps : List Nat} {W : World} {i : Nat} {o : Ob} {u : Vl} (h : GetJ w B hb lv Ls os key st pre W) (_hat : HpO w B hb lv Ls os)
    (ho : os[i]? = some o) (hv : o.vals key.data.toList = some u) (hps : ps = pre ++ i :: rest) : GetX w os key st ps (getStore w u.kind u.n u.s true W) := by
  refine ⟨(getStore_old (by omega) (by omega)).trans h.rc, (getStore_old (by omega) (by omega)).trans h.dd, h.rb.keep (getStore_old (by omega) (by omega)), getStore_fb h.fb, getStore_low h.low, u, ?_, getStore_vb h.vb⟩
  rw [hps, find_pre h.no]
  simp [ho, hv]

theorem GetX.turned {w : World} {os : List Ob} {key : ByteArray} {st : Obj} {ps : List Nat} {W : World} (h : GetX w os key st ps W) (st' : Obj) :
    GetX w os key st' ps (W.putObj (w.heap.size + 1 + 1 + 1 + 1 + 1 + 1 + 1) st') := by
  have hlt := (Array.getElem?_eq_some_iff.1 h.rc).1
  refine ⟨World.putObj_heap_same hlt, (putObj_old (by omega)).trans h.dd, h.rb.keep (putObj_old (by omega)), h.fb.keep (putObj_old (by omega)), ?_, ?_⟩
  · exact h.low.grown (grownBy_putObj' W _ st') h.low.size (fun k e => by cases e; omega)
  · obtain ⟨u, h1, h2⟩ := h.yes
    exact ⟨u, h1, h2.keep (putObj_old (by omega))⟩

theorem GetJ.setp {w : World} {B : Nat} {hb : Option Nat} {lv : Value} {Ls : List Lo} {os : List Ob} {key : ByteArray} {st : Obj} {pre : List Nat} {W : World} (h : GetJ w B hb lv Ls os key st pre W) (hat : HpO w B hb lv Ls os) (v : Value) :
    GetJ w B hb lv Ls os key st pre (W.setCell ⟨w.heap.size + 1 + 1 + 1 + 1 + 1, 0, none⟩ v) := by
  have ho : ∀ k, k ≠ w.heap.size + 1 + 1 + 1 + 1 + 1 → (W.setCell ⟨w.heap.size + 1 + 1 + 1 + 1 + 1, 0, none⟩ v).heap[k]? = W.heap[k]? := fun k hk => Below.heap_setCell _ _ _ _ hk
  refine ⟨(ho _ (by omega)).trans h.rc, (ho _ (by omega)).trans h.dd, h.hat.keep (fun k hk => ho k (by have := hat.foot k hk; omega)), h.kb.keep (ho _ (by omega)), h.rb.keep (ho _ (by omega)), h.vb.keep (ho _ (by omega)),
    h.fb.keep (ho _ (by omega)), h.bh.keep (ho _ (by omega)), ?_, h.low.setCell (by simp; omega) _, h.no⟩
  obtain ⟨u, hu⟩ := h.bp
  exact ⟨v, by simpa using hu.set_ 0 v⟩

theorem alloc8 (w : World) (a b c d e f g h : Obj) (k : Nat) : ((((((((w.alloc a).alloc b).alloc c).alloc d).alloc e).alloc f).alloc g).alloc h).heap[k]? =
    if k = w.heap.size then some a else if k = w.heap.size + 1 then some b else if k = w.heap.size + 1 + 1 then some c else if k = w.heap.size + 1 + 1 + 1 then some d else if k = w.heap.size + 1 + 1 + 1 + 1 then some e
    else if k = w.heap.size + 1 + 1 + 1 + 1 + 1 then some f else if k = w.heap.size + 1 + 1 + 1 + 1 + 1 + 1 then some g else if k = w.heap.size + 1 + 1 + 1 + 1 + 1 + 1 + 1 then some h else w.heap[k]? := by
  show ((((((((w.heap.push a).push b).push c).push d).push e).push f).push g).push h)[k]? = _
  simp only [Array.getElem?_push, Array.size_push]
  split <;> rename_i h8
  · subst h8
    rw [if_neg (by omega), if_neg (by omega), if_neg (by omega), if_neg (by omega), if_neg (by omega), if_neg (by omega), if_neg (by omega)]
  · split <;> rename_i h7
    · subst h7
      rw [if_neg (by omega), if_neg (by omega), if_neg (by omega), if_neg (by omega), if_neg (by omega), if_neg (by omega)]
    · split <;> rename_i h6
      · subst h6
        rw [if_neg (by omega), if_neg (by omega), if_neg (by omega), if_neg (by omega), if_neg (by omega)]
      · split <;> rename_i h5
        · subst h5
          rw [if_neg (by omega), if_neg (by omega), if_neg (by omega), if_neg (by omega)]
        · split <;> rename_i h4
          · subst h4
            rw [if_neg (by omega), if_neg (by omega), if_neg (by omega)]
          · split <;> rename_i h3
            · subst h3
              rw [if_neg (by omega), if_neg (by omega)]
            · split <;> rename_i h2
              · subst h2
                rw [if_neg (by omega)]
              · split <;> rename_i h1
                · rfl
                · rfl

theorem getJ_init {w : World} {B : Nat} {hb : Option Nat} {lv : Value} {Ls : List Lo} {os : List Ob} (hat : HpO w B hb lv Ls os) (key : ByteArray) (p : Int) (st : Obj) :
    GetJ w B hb lv Ls os key st [] ((((((((w.alloc (.cells #[.string key] 9)).alloc (.cells #[.int .i64 0, .int .i64 0, .string ⟨#[]⟩] 33)).alloc (.cells #[.int .i64 0, .int .i64 0, .string ⟨#[]⟩] 33)).alloc (.cells #[.bool false] 4)).alloc
      (.cells #[ptrO hb] 23)).alloc (.cells #[.int .i64 p] 3)).alloc (.deferred (some []))).alloc st) ∧
    ((((((((w.alloc (.cells #[.string key] 9)).alloc (.cells #[.int .i64 0, .int .i64 0, .string ⟨#[]⟩] 33)).alloc (.cells #[.int .i64 0, .int .i64 0, .string ⟨#[]⟩] 33)).alloc (.cells #[.bool false] 4)).alloc
      (.cells #[ptrO hb] 23)).alloc (.cells #[.int .i64 p] 3)).alloc (.deferred (some []))).alloc st).cell? ⟨w.heap.size + 1 + 1 + 1 + 1 + 1, 0, none⟩ = some (.int .i64 p) := by
  have hbp : Blk ((((((((w.alloc (.cells #[.string key] 9)).alloc (.cells #[.int .i64 0, .int .i64 0, .string ⟨#[]⟩] 33)).alloc (.cells #[.int .i64 0, .int .i64 0, .string ⟨#[]⟩] 33)).alloc (.cells #[.bool false] 4)).alloc
      (.cells #[ptrO hb] 23)).alloc (.cells #[.int .i64 p] 3)).alloc (.deferred (some []))).alloc st) (w.heap.size + 1 + 1 + 1 + 1 + 1) 3 #[.int .i64 p] := by
    unfold Blk
    rw [alloc8]
    rw [if_neg (by omega), if_neg (by omega), if_neg (by omega), if_neg (by omega), if_neg (by omega), if_pos rfl]
  refine ⟨⟨?_, ?_, ?_, ?_, ?_, ?_, ?_, ?_, ⟨_, hbp⟩, ?_, by simp⟩, hbp.cell 0⟩
  · rw [alloc8, if_neg (by omega), if_neg (by omega), if_neg (by omega), if_neg (by omega), if_neg (by omega), if_neg (by omega), if_neg (by omega), if_pos rfl]
  · rw [alloc8, if_neg (by omega), if_neg (by omega), if_neg (by omega), if_neg (by omega), if_neg (by omega), if_neg (by omega), if_pos rfl]
  · refine hat.keep (fun k hk => ?_)
    have := hat.foot k hk
    rw [alloc8, if_neg (by omega), if_neg (by omega), if_neg (by omega), if_neg (by omega), if_neg (by omega), if_neg (by omega), if_neg (by omega), if_neg (by omega)]
  · unfold Blk
    rw [alloc8, if_pos rfl]
  · unfold Blk
    rw [alloc8, if_neg (by omega), if_pos rfl]
  · unfold Blk
    rw [alloc8, if_neg (by omega), if_neg (by omega), if_pos rfl]
  · unfold Blk
    rw [alloc8, if_neg (by omega), if_neg (by omega), if_neg (by omega), if_pos rfl]
  · unfold Blk
    rw [alloc8, if_neg (by omega), if_neg (by omega), if_neg (by omega), if_neg (by omega), if_pos rfl]
  · exact (((((((((Below.refl _ w).alloc (Nat.le_refl _) _).alloc (by simp) _).alloc (by simp; omega) _).alloc (by simp; omega) _).alloc (by simp; omega) _).alloc (by simp; omega) _).alloc (by simp; omega) _).alloc (by simp; omega) _)

/-- What the return stores. -/
def getEnd (w : World) (k n : Int) (s : ByteArray) (W : World) : World :=
  (((W.setCell ⟨w.heap.size + 1, 0, none⟩ (.int .i64 k)).setCell ⟨w.heap.size + 1, 1, none⟩ (.int .i64 n)).setCell ⟨w.heap.size + 1, 2, none⟩ (.string s)).drew
theorem getEnd_dd {w W : World} {k n : Int} {s : ByteArray} {o : Obj} (h : W.heap[w.heap.size + 1 + 1 + 1 + 1 + 1 + 1]? = some o) : (getEnd w k n s W).heap[w.heap.size + 1 + 1 + 1 + 1 + 1 + 1]? = some o := by
  unfold getEnd
  show (World.setCell _ _ _).heap[_]? = _
  rw [Below.heap_setCell _ _ _ _ (by show _ ≠ w.heap.size + 1; omega), Below.heap_setCell _ _ _ _ (by show _ ≠ w.heap.size + 1; omega), Below.heap_setCell _ _ _ _ (by show _ ≠ w.heap.size + 1; omega)]
  exact h
theorem getEnd_rb {w W : World} {k n : Int} {s : ByteArray} {k0 n0 : Int} {s0 : ByteArray} (h : Blk W (w.heap.size + 1) 33 #[.int .i64 k0, .int .i64 n0, .string s0]) : Blk (getEnd w k n s W) (w.heap.size + 1) 33 #[.int .i64 k, .int .i64 n, .string s] := by
  have h1 := ((h.set_ 0 (.int .i64 k)).set_ 1 (.int .i64 n)).set_ 2 (.string s)
  simp only [Array.setIfInBounds, List.size_toArray] at h1
  exact h1
theorem getEnd_low {w W : World} {k n : Int} {s : ByteArray} (h : Below w.heap.size w W) : Below w.heap.size w (getEnd w k n s W) :=
  (((h.setCell (p := ⟨w.heap.size + 1, 0, none⟩) (by simp) _).setCell (p := ⟨w.heap.size + 1, 1, none⟩) (by simp) _).setCell (p := ⟨w.heap.size + 1, 2, none⟩) (by simp) _).drew

set_option maxRecDepth 100000 in
set_option maxHeartbeats 4000000 in
theorem get_any (w : World) (B : Nat) (hb : Option Nat) (lv : Value) (Ls : List Lo) (os : List Ob) (p : Int) (ps : List Nat) (key : ByteArray) (hat : HpO w B hb lv Ls os) (hT : Tied os) (hch : Chain os p ps) (hk : key.size ≤ maxLen) :
    Calls Try.prog 15 #[ptrO hb, .int .i64 p, .string key] w fun e w' => e = .returned (told (ps.findSome? fun i => (os[i]?).bind fun o => o.vals key.data.toList)) ∧ Below w.heap.size w w' := by
  refine (callsIn_wide (n := 5)).1 (callsIn_of_wp_marks Try.func15 rfl trivial (wpIn_wide.2 ?_) rfl)
  simp only [Try.ntmps15, List.size_toArray, List.length_cons, List.length_nil, Nat.reduceAdd, Nat.reduceSub, Array.replicate_succ, Array.replicate_zero, List.push_toArray, List.append_toArray, List.nil_append, List.cons_append]
  go_wp2
  go_step3
  go_wp2
  go_step3
  go_wp2_with (go_at_call 31; refine (chain_calls _ _ _).mono ?_; rintro e w' ⟨rfl, rfl⟩)
  refine wpIn_wide.1 (range_outer (n := 5) rfl (by omega) (gf := 40) (lb := #[.pointer (some ⟨w.heap.size + 1 + 1 + 1 + 1, 0, none⟩), .pointer (some ⟨w.heap.size + 1 + 1 + 1 + 1 + 1, 0, none⟩)]) rfl trivial (enters_of Try.func40 (by kernel_rfl) rfl) ?_)
  intro fn R _ hR
  simp only [World.size_alloc] at hR ⊢
  refine (chain1_in 4 _ B hb (w.heap.size + 1 + 1 + 1 + 1) (w.heap.size + 1 + 1 + 1 + 1 + 1) lv Ls os hT (fun pre W => GetJ w B hb lv Ls os key (R .ready none) pre W) (GetX w os key (R .done (some (.exit 0))) ps) ?_ ?_ ?_ ps ?_ _ p hch ?_ ?_).mono ?_
  · exact fun pre W hj => ⟨hj.hat, hj.bh.cell 0, by obtain ⟨v, hv⟩ := hj.bp; exact hv.frozen 0⟩
  · exact fun pre W hj => ⟨hj.rc, hj.dd, hj.hat.keep (fun _ _ => rfl), hj.kb, hj.rb, hj.vb, hj.fb, hj.bh, hj.bp, hj.low.drew, hj.no⟩
  · exact fun pre W v hj => hj.setp hat v
  · intro pre i rest L o W hps hj hL ho
    refine (yield_of hR (fun W' => GetJ w B hb lv Ls os key (R .ready none) (pre ++ [i]) W' ∧ W'.cell? ⟨w.heap.size + 1 + 1 + 1 + 1 + 1, 0, none⟩ = W.cell? ⟨w.heap.size + 1 + 1 + 1 + 1 + 1, 0, none⟩)
      (fun c W' => c = .exit 0 ∧ GetX w os key (R .done (some (.exit 0))) ps W') trivial hj.rc rfl ?_).mono ?_
    · clear hR
      gi_wp2
      refine ⟨hj.rc, ?_⟩
      have hj1 := hj.turned hat (R .busy none)
      obtain ⟨W1, hW1⟩ : ∃ W1, W.putObj (w.heap.size + 1 + 1 + 1 + 1 + 1 + 1 + 1) (R .busy none) = W1 := ⟨_, rfl⟩
      have hbp : W1.cell? ⟨w.heap.size + 1 + 1 + 1 + 1 + 1, 0, none⟩ = W.cell? ⟨w.heap.size + 1 + 1 + 1 + 1 + 1, 0, none⟩ := by
        rw [← hW1]; exact World.cell?_of_block (putObj_old (by simp))
      rw [hW1] at hj1 ⊢
      have HBP := Lib.hid hbp
      have HW := Lib.hid hW1
      have HPS := Lib.hid hps
      clear hW1 hbp hps hj
      have hO := hj1.hat.obj hL ho
      have hcm : W1.cell? ⟨L.ob, 5, none⟩ = some (.map (some L.mb)) := by rw [hO.blk.cell]; rfl
      have hck : W1.cell? ⟨w.heap.size, 0, none⟩ = some (.string key) := hj1.kb.cell 0
      have hv0 := hj1.vb.cell 0
      have hv1 := hj1.vb.cell 1
      have hv2 := hj1.vb.cell 2
      have hvf0 := hj1.vb.frozen 0
      have hvf1 := hj1.vb.frozen 1
      have hvf2 := hj1.vb.frozen 2
      have hf0 := hj1.fb.cell 0
      have hff := hj1.fb.frozen 0
      have hlk := (hO.map.keep (w' := W1.drew) rfl).look Try.underlying9 Try.underlying67 (zero_val _) hk
      cases hv : o.vals key.data.toList with
      | none =>
        simp only [hv, Option.map_none, Option.getD_none, Option.isSome_none, zeroVal] at hlk
        have HV := Lib.hid hv
        clear hv
        gi_wp2
        have hmo : Try.prog.follows .mixedOrders = true := by kernel_rfl
        apply wpIn_one
        case h =>
          gi_region_with_o (fail)
          all_goals exact ⟨rfl, rfl, rfl⟩
        clear hmo
        gi_wp2
        have hn := (hj1.missed hat ho HV.out)
        refine ⟨hn.rc, hn.turned hat (R .ready none), ?_⟩
        refine (World.cell?_of_block (putObj_old (by simp))).trans (Eq.trans ?_ HBP.out)
        exact World.cell?_of_block (getStore_old (w := w) (W := W1) (by show w.heap.size + 1 + 1 + 1 + 1 + 1 ≠ _; omega) (by show w.heap.size + 1 + 1 + 1 + 1 + 1 ≠ _; omega))
      | some u =>
        simp only [hv, Option.map_some, Option.getD_some, Option.isSome_some, Vl.val] at hlk
        have HV := Lib.hid hv
        clear hv
        gi_wp2
        have hmo : Try.prog.follows .mixedOrders = true := by kernel_rfl
        apply wpIn_one
        case h =>
          gi_region_with_o (fail)
          all_goals exact ⟨rfl, rfl, rfl⟩
        clear hmo
        gi_wp2
        have hx := hj1.hit hat ho HV.out HPS.out
        refine ⟨hx.rc, rfl, hx.turned (R .done (some (.exit 0)))⟩
    · rintro e W' (⟨rfl, h1, h2⟩ | ⟨rfl, c, rfl, h1⟩)
      · exact .inl ⟨rfl, h1, h2⟩
      · exact .inr ⟨rfl, h1⟩
  · exact (getJ_init hat key p (R .ready none)).2
  · exact (getJ_init hat key p (R .ready none)).1
  · rintro e W ⟨hv, hj | hx⟩
    · refine ⟨hv, hj.dd, .inl ⟨hj.rc, ?_⟩⟩
      clear hR
      have hj1 := hj.turned hat (R .exhausted none)
      obtain ⟨W1, hW1⟩ : ∃ W1, W.putObj (w.heap.size + 1 + 1 + 1 + 1 + 1 + 1 + 1) (R .exhausted none) = W1 := ⟨_, rfl⟩
      rw [hW1] at hj1 ⊢
      clear hW1 hj
      have c0 := hj1.vb.cell 0
      have c1 := hj1.vb.cell 1
      have c2 := hj1.vb.cell 2
      have c3 := hj1.fb.cell 0
      have r0 := hj1.rb.cell 0
      have r1 := hj1.rb.cell 1
      have r2 := hj1.rb.cell 2
      have f0 := hj1.rb.frozen 0
      have f1 := hj1.rb.frozen 1
      have f2 := hj1.rb.frozen 2
      go_wp2
      go_region
      go_wp2
      rw [Exit.noGoto_ret]
      have hd := getEnd_dd (w := w) (k := 0) (n := 0) (s := ⟨#[]⟩) hj1.dd
      refine ⟨by simp, .inl ⟨_, _, rfl, run_takeDeferred hd, ?_⟩⟩
      have hb := getEnd_rb (k := 0) (n := 0) (s := ⟨#[]⟩) hj1.rb
      have hb2 := hb.keep (putObj_old (W := getEnd w 0 0 ⟨#[]⟩ W1) (r := w.heap.size + 1 + 1 + 1 + 1 + 1 + 1) (o := .deferred none) (by omega))
      have hl := (getEnd_low (k := 0) (n := 0) (s := ⟨#[]⟩) hj1.low).grown (grownBy_putObj' (getEnd w 0 0 ⟨#[]⟩ W1) (w.heap.size + 1 + 1 + 1 + 1 + 1 + 1) (.deferred none)) (getEnd_low hj1.low).size (fun k e => by cases e; omega)
      obtain ⟨Y, hY⟩ : ∃ Y, (getEnd w 0 0 ⟨#[]⟩ W1).putObj (w.heap.size + 1 + 1 + 1 + 1 + 1 + 1) (.deferred none) = Y := ⟨_, rfl⟩
      rw [hY] at hb2 hl
      have e1 : (ps.findSome? fun i => (os[i]?).bind fun o => o.vals key.data.toList) = none := by
        rw [List.findSome?_eq_none_iff]
        exact hj1.no
      refine ⟨told none, ?_, by rw [e1], by exact hY ▸ hl⟩
      have q0 := hb2.cell 0
      have q1 := hb2.cell 1
      have q2 := hb2.cell 2
      show Sem.run _ _ ((getEnd w 0 0 ⟨#[]⟩ W1).putObj (w.heap.size + 1 + 1 + 1 + 1 + 1 + 1) (.deferred none)) = _
      rw [hY]
      have HY := Lib.hid hY
      clear hY hl hb hd c0 c1 c2 c3 r0 r1 r2
      simp [results, Try.f15, go_sem, told, zeroVal, q0, q1, q2]
      exact HY.out.symm
    · refine ⟨hv, hx.dd, .inr ⟨.exit 0, hx.rc, wpIn_wide.2 ?_⟩⟩
      clear hR
      have hx1 := hx.turned (R .exhausted (some (.exit 0)))
      obtain ⟨W1, hW1⟩ : ∃ W1, W.putObj (w.heap.size + 1 + 1 + 1 + 1 + 1 + 1 + 1) (R .exhausted (some (.exit 0))) = W1 := ⟨_, rfl⟩
      rw [hW1] at hx1 ⊢
      clear hW1 hx
      obtain ⟨u, hu, hvb⟩ := hx1.yes
      have c0 := hvb.cell 0
      have c1 := hvb.cell 1
      have c2 := hvb.cell 2
      have c3 := hx1.fb.cell 0
      have r0 := hx1.rb.cell 0
      have r1 := hx1.rb.cell 1
      have r2 := hx1.rb.cell 2
      have f0 := hx1.rb.frozen 0
      have f1 := hx1.rb.frozen 1
      have f2 := hx1.rb.frozen 2
      have HU := Lib.hid hu
      clear hu
      go_wp2
      go_region
      go_wp2
      rw [Exit.noGoto_ret]
      have hd := getEnd_dd (w := w) (k := u.kind) (n := u.n) (s := u.s) hx1.dd
      refine ⟨by simp, .inl ⟨_, _, rfl, run_takeDeferred hd, ?_⟩⟩
      have hb := getEnd_rb (k := u.kind) (n := u.n) (s := u.s) hx1.rb
      have hb2 := hb.keep (putObj_old (W := getEnd w u.kind u.n u.s W1) (r := w.heap.size + 1 + 1 + 1 + 1 + 1 + 1) (o := .deferred none) (by omega))
      have hl := (getEnd_low (k := u.kind) (n := u.n) (s := u.s) hx1.low).grown (grownBy_putObj' (getEnd w u.kind u.n u.s W1) (w.heap.size + 1 + 1 + 1 + 1 + 1 + 1) (.deferred none)) (getEnd_low hx1.low).size (fun k e => by cases e; omega)
      obtain ⟨Y, hY⟩ : ∃ Y, (getEnd w u.kind u.n u.s W1).putObj (w.heap.size + 1 + 1 + 1 + 1 + 1 + 1) (.deferred none) = Y := ⟨_, rfl⟩
      rw [hY] at hb2 hl
      refine ⟨told (some u), ?_, by rw [HU.out], by exact hY ▸ hl⟩
      have q0 := hb2.cell 0
      have q1 := hb2.cell 1
      have q2 := hb2.cell 2
      show Sem.run _ _ ((getEnd w u.kind u.n u.s W1).putObj (w.heap.size + 1 + 1 + 1 + 1 + 1 + 1) (.deferred none)) = _
      rw [hY]
      have HY := Lib.hid hY
      clear hY hl hb hd c0 c1 c2 c3 r0 r1 r2
      simp [results, Try.f15, go_sem, told, Vl.val, q0, q1, q2]
      exact HY.out.symm

theorem get_calls (w : World) (B hb : Nat) (F : Nat → Prop) (os : List Ob) (p : Int) (ps : List Nat) (key : ByteArray) (h : Hp w B hb F os) (hT : Tied os) (hch : Chain os p ps) (hk : key.size ≤ maxLen) :
    Calls Try.prog 15 #[.pointer (some ⟨hb, 0, none⟩), .int .i64 p, .string key] w fun e w' => e = .returned (told (ps.findSome? fun i => (os[i]?).bind fun o => o.vals key.data.toList)) ∧ Below w.heap.size w w' := by
  obtain ⟨lv, Ls, hat, _⟩ := h
  exact get_any w B (some hb) lv Ls os p ps key hat hT hch hk

theorem get_nil (w : World) (p : Int) (key : ByteArray) (hk : key.size ≤ maxLen) :
    Calls Try.prog 15 #[.pointer none, .int .i64 p, .string key] w fun e w' => e = .returned (told none) ∧ Below w.heap.size w w' :=
  get_any w 0 none undef [] [] p [] key ⟨rfl, rfl⟩ (fun i o h => by simp at h) (.stop (by simp; omega)) hk

end Go.Proofs.Ytbdkbjfaialeoaa
