/- slices.Index, slices.Contains at []string; the method All. -/
import Derived.Test.YtbdkbjfaialeoaaKeys
import Derived.Test.YtbdkbjfaialeoaaGet
namespace Go.Proofs.Ytbdkbjfaialeoaa
open Go.RowKit Go.Shelf Go.Sort
attribute [local go_sem] Oper.semAt_some

def memS (k : ByteArray) (xs : List ByteArray) : Bool := xs.any fun x => decide (x = k)
theorem memS_iff {k : ByteArray} {xs : List ByteArray} : memS k xs = true ↔ k ∈ xs := by simp [memS]
theorem memS_not {k : ByteArray} {xs : List ByteArray} : memS k xs = false ↔ k ∉ xs := by rw [← memS_iff]; simp

set_option maxHeartbeats 1000000 in
theorem index_calls (w : World) (u : Value) (xs : List ByteArray) (key : ByteArray) (hu : SlR w u (xs.map Value.string)) (hm : xs.length ≤ maxLen) :
    Calls Try.prog 41 #[u, .string key] w fun e w' => ∃ i : Int, e = .returned (.int .i64 i) ∧ decide (0 ≤ i) = memS key xs ∧ w = w' := by
  unfold maxLen at hm
  obtain ⟨A, c, rfl, hA⟩ := hu
  simp only [List.length_map] at *
  have HA := Lib.hid hA
  clear hA
  go_enter Try.func41, Try.ntmps41
  go_wp2
  go_loopw [8] (fun i wr => ∃ k : Nat, k ≤ xs.length ∧ i = .int .i64 k ∧ key ∉ xs.take k ∧ wr = w) (fun i _ => xs.length - (intOf i).toNat)
  case atStart => exact ⟨0, by omega, rfl, by simp, rfl⟩
  case round =>
    obtain ⟨k, hk, rfl, htk, rfl⟩ := hrel
    have HT := Lib.hid htk
    clear htk
    by_cases hlt : k < xs.length
    · have hx : xs[k]? = some xs[k] := List.getElem?_eq_getElem hlt
      generalize xs[k] = x at hx
      obtain ⟨b1, o1, rfl, hb1, hc1⟩ := HA.out k (.string x) (by simp [hx])
      have HX := Lib.hid hx
      clear hx
      by_cases hxy : key = x
      · subst hxy
        have heq : (key.toList == key.toList) = true := by simp
        go_wp2
        go_ret
        refine ⟨_, rfl, ?_, rfl⟩
        rw [memS_iff.2 (List.mem_of_getElem? HX.out)]
        simp
      · have hne : (key.toList == x.toList) = false := by
          rw [ByteArray.toList_eq, ByteArray.toList_eq, beq_eq_false_iff_ne]
          exact fun h => hxy (Go.WideShapes.bytes_inj h)
        go_wp2
        go_roundw
        case rel =>
          refine ⟨k + 1, by omega, by go_num, ?_, trivial⟩
          rw [List.take_add_one, HX.out]
          simp only [Option.toList_some, List.mem_append, List.mem_singleton, not_or]
          exact ⟨HT.out, hxy⟩
        case measure => simp [intOf]; omega
    · obtain rfl : k = xs.length := by omega
      go_wp2
      go_ret
      refine ⟨_, rfl, ?_, rfl⟩
      have := HT.out
      rw [List.take_length] at this
      rw [memS_not.2 this]
      rfl

set_option maxHeartbeats 1000000 in
theorem contains_calls (w : World) (u : Value) (xs : List ByteArray) (key : ByteArray) (hu : SlR w u (xs.map Value.string)) (hm : xs.length ≤ maxLen) :
    Calls Try.prog 34 #[u, .string key] w fun e w' => e = .returned (.bool (memS key xs)) ∧ w = w' := by
  have HU := Lib.hid hu
  clear hu
  go_enter Try.func34, Try.ntmps34
  go_wp2_with (go_at_call 41; refine (index_calls w u xs key HU.out hm).mono ?_; rintro e w' ⟨i, rfl, hi, rfl⟩)
  go_ret
  exact ⟨by rw [← hi]; rfl, rfl⟩

/-- What one object's keys make of what is told. -/
def addK (out : List ByteArray) (k : ByteArray) : List ByteArray := if memS k out then out else out ++ [k]
def addAll (out ks : List ByteArray) : List ByteArray := ks.foldl addK out
def keysAt (os : List Ob) (i : Nat) : List ByteArray := ((os[i]?).map Ob.keys).getD []
def allK (os : List Ob) (ps : List Nat) : List ByteArray := ps.foldl (fun out i => addAll out (keysAt os i)) []

theorem addK_len (out : List ByteArray) (k : ByteArray) : (addK out k).length ≤ out.length + 1 := by
  unfold addK; split <;> simp
theorem addAll_len : ∀ (ks out : List ByteArray), (addAll out ks).length ≤ out.length + ks.length
  | [], out => by simp [addAll]
  | k :: ks, out => by
    have h1 := addAll_len ks (addK out k)
    have h2 := addK_len out k
    simp only [addAll, List.foldl_cons, List.length_cons] at h1 ⊢
    omega
theorem allK_len {os : List Ob} {n : Nat} (h : ∀ o ∈ os, o.keys.length ≤ n) : ∀ (ps : List Nat) (out : List ByteArray), (ps.foldl (fun out i => addAll out (keysAt os i)) out).length ≤ out.length + ps.length * n
  | [], out => by simp
  | i :: ps, out => by
    have h1 := allK_len h ps (addAll out (keysAt os i))
    have h2 := addAll_len (keysAt os i) out
    have h3 : (keysAt os i).length ≤ n := by
      unfold keysAt
      cases ho : os[i]? with
      | none => simp
      | some o => exact h o (List.mem_of_getElem? ho)
    simp only [List.foldl_cons, List.length_cons, Nat.add_mul, Nat.one_mul] at h1 ⊢
    omega

/-- All, between two steps of a round. -/
structure AllJ (w : World) (B : Nat) (hb : Option Nat) (lv : Value) (Ls : List Lo) (os : List Ob) (st : Obj) (out : List ByteArray) (p : Value) (W : World) : Prop where
  rc : W.heap[w.heap.size + 1 + 1 + 1 + 1]? = some st
  dd : W.heap[w.heap.size + 1 + 1 + 1]? = some (.deferred (some []))
  hat : HpO W B hb lv Ls os
  ob : ∃ v, Blk W w.heap.size 38 #[v] ∧ W.ownsRow (w.heap.size + 1 + 1 + 1 + 1 + 1) 9 1 v out.length (out.map Value.string)
  bh : Blk W (w.heap.size + 1) 23 #[ptrO hb]
  bp : Blk W (w.heap.size + 1 + 1) 3 #[p]
  low : Below w.heap.size w W

section
variable {w : World} {B : Nat} {hb : Option Nat} {lv : Value} {Ls : List Lo} {os : List Ob} {st : Obj} {out : List ByteArray} {p : Value} {W : World}

theorem AllJ.drew (h : AllJ w B hb lv Ls os st out p W) : AllJ w B hb lv Ls os st out p W.drew :=
  ⟨h.rc, h.dd, h.hat.keep (fun _ _ => rfl), h.ob, h.bh, h.bp, h.low.drew⟩

theorem AllJ.turned (h : AllJ w B hb lv Ls os st out p W) (hat : HpO w B hb lv Ls os) (st' : Obj) :
    AllJ w B hb lv Ls os st' out p (W.putObj (w.heap.size + 1 + 1 + 1 + 1) st') := by
  have hlt := (Array.getElem?_eq_some_iff.1 h.rc).1
  refine ⟨World.putObj_heap_same hlt, (putObj_old (by omega)).trans h.dd, h.hat.keep (fun k hk => putObj_old (by have := hat.foot k hk; omega)), ?_, h.bh.keep (putObj_old (by omega)), h.bp.keep (putObj_old (by omega)), ?_⟩
  · obtain ⟨v, h1, h2⟩ := h.ob
    exact ⟨v, h1.keep (putObj_old (by omega)), own_keep h2 (fun g hg => putObj_old (by have := (h2.lt g hg).1; omega))⟩
  · exact h.low.grown (grownBy_putObj' W _ st') h.low.size (fun k e => by cases e; omega)

theorem AllJ.setp (h : AllJ w B hb lv Ls os st out p W) (hat : HpO w B hb lv Ls os) (v : Value) :
    AllJ w B hb lv Ls os st out v (W.setCell ⟨w.heap.size + 1 + 1, 0, none⟩ v) := by
  have ho : ∀ k, k ≠ w.heap.size + 1 + 1 → (W.setCell ⟨w.heap.size + 1 + 1, 0, none⟩ v).heap[k]? = W.heap[k]? := fun k hk => Below.heap_setCell _ _ _ _ hk
  refine ⟨(ho _ (by omega)).trans h.rc, (ho _ (by omega)).trans h.dd, h.hat.keep (fun k hk => ho k (by have := hat.foot k hk; omega)), ?_, h.bh.keep (ho _ (by omega)), by simpa using h.bp.set_ 0 v, h.low.setCell (by simp; omega) _⟩
  obtain ⟨u, h1, h2⟩ := h.ob
  exact ⟨u, h1.keep (ho _ (by omega)), own_keep h2 (fun g hg => ho _ (by have := (h2.lt g hg).1; omega))⟩

theorem AllJ.box (h : AllJ w B hb lv Ls os st out p W) {v : Value} (hv : W.cell? ⟨w.heap.size, 0, none⟩ = some v) {k : ByteArray} {W2 : World} {t : TypeId} (hg : (W.alloc (.cells #[.string k] t)).grownBy W2 v.ownBlock) : Blk W2 w.heap.size 38 #[v] := by
  obtain ⟨u, h1, h2⟩ := h.ob
  have huv : u = v := by
    rw [h1.cell 0] at hv
    simpa using hv
  subst huv
  have hlt := (Array.getElem?_eq_some_iff.1 h.rc).1
  exact h1.keep (by
    rw [hg.block _ (by simp; omega) (fun e => by have := (h2.lt _ e.symm).1; omega), Below.heap_alloc _ _ _ (by omega)])

theorem AllJ.push (h : AllJ w B hb lv Ls os st out p W) (hat : HpO w B hb lv Ls os) {v v' : Value} (hv : W.cell? ⟨w.heap.size, 0, none⟩ = some v) {k : ByteArray} {W2 : World} {t : TypeId}
    (hown : W2.ownsRow (w.heap.size + 1 + 1 + 1 + 1 + 1) 9 1 v' (out.length + 1) (out.map Value.string ++ [.string k])) (hg : (W.alloc (.cells #[.string k] t)).grownBy W2 v.ownBlock) :
    AllJ w B hb lv Ls os st (out ++ [k]) p (W2.setCell ⟨w.heap.size, 0, none⟩ v') := by
  obtain ⟨u, h1, h2⟩ := h.ob
  have huv : u = v := by
    rw [h1.cell 0] at hv
    simpa using hv
  subst huv
  have hlt := (Array.getElem?_eq_some_iff.1 h.rc).1
  have hkeep : ∀ j, j < w.heap.size + 1 + 1 + 1 + 1 + 1 → j ≠ w.heap.size → (W2.setCell ⟨w.heap.size, 0, none⟩ v').heap[j]? = W.heap[j]? := by
    intro j hj hne
    rw [Below.heap_setCell _ _ _ _ hne, hg.block j (by simp; omega) (fun e => by have := (h2.lt j e.symm).1; omega), Below.heap_alloc _ _ _ (by omega)]
  have hW2 : Blk W2 w.heap.size 38 #[u] := h1.keep (by
    rw [hg.block _ (by simp; omega) (fun e => by have := (h2.lt _ e.symm).1; omega), Below.heap_alloc _ _ _ (by omega)])
  refine ⟨(hkeep _ (by omega) (by omega)).trans h.rc, (hkeep _ (by omega) (by omega)).trans h.dd, h.hat.keep (fun j hj => hkeep j (by have := hat.foot j hj; omega) (by have := hat.foot j hj; omega)), ?_,
    h.bh.keep (hkeep _ (by omega) (by omega)), h.bp.keep (hkeep _ (by omega) (by omega)), ?_⟩
  · refine ⟨v', by simpa using hW2.set_ 0 v', ?_⟩
    have h3 := own_keep (w' := W2.setCell ⟨w.heap.size, 0, none⟩ v') hown (fun g hg' => Below.heap_setCell _ _ _ _ (by have := (hown.lt g hg').1; show g ≠ w.heap.size; omega))
    simpa using h3
  · exact ((h.low.alloc (by omega) (.cells #[.string k] t)).grown hg (by simp; omega) (fun j e => by have := (h2.lt j e).1; omega)).setCell (by simp) _

theorem alloc5 (w : World) (a b c d e : Obj) (k : Nat) : (((((w.alloc a).alloc b).alloc c).alloc d).alloc e).heap[k]? =
    if k = w.heap.size then some a else if k = w.heap.size + 1 then some b else if k = w.heap.size + 1 + 1 then some c else if k = w.heap.size + 1 + 1 + 1 then some d else if k = w.heap.size + 1 + 1 + 1 + 1 then some e else w.heap[k]? := by
  show (((((w.heap.push a).push b).push c).push d).push e)[k]? = _
  simp only [Array.getElem?_push, Array.size_push]
  split <;> rename_i h5
  · subst h5
    rw [if_neg (by omega), if_neg (by omega), if_neg (by omega), if_neg (by omega)]
  · split <;> rename_i h4
    · subst h4
      rw [if_neg (by omega), if_neg (by omega), if_neg (by omega)]
    · split <;> rename_i h3
      · subst h3
        rw [if_neg (by omega), if_neg (by omega)]
      · split <;> rename_i h2
        · subst h2
          rw [if_neg (by omega)]
        · split <;> rfl

theorem allJ_init (hat : HpO w B hb lv Ls os) (p : Int) (st : Obj) :
    AllJ w B hb lv Ls os st [] (.int .i64 p) (((((w.alloc (.cells #[.slice none 0 0] 38)).alloc (.cells #[ptrO hb] 23)).alloc (.cells #[.int .i64 p] 3)).alloc (.deferred (some []))).alloc st) := by
  refine ⟨?_, ?_, ?_, ⟨.slice none 0 0, ?_, World.ownsRow_nil _ _ _ _⟩, ?_, ?_, ?_⟩
  · rw [alloc5, if_neg (by omega), if_neg (by omega), if_neg (by omega), if_neg (by omega), if_pos rfl]
  · rw [alloc5, if_neg (by omega), if_neg (by omega), if_neg (by omega), if_pos rfl]
  · refine hat.keep (fun k hk => ?_)
    have := hat.foot k hk
    rw [alloc5, if_neg (by omega), if_neg (by omega), if_neg (by omega), if_neg (by omega), if_neg (by omega)]
  · unfold Blk
    rw [alloc5, if_pos rfl]
  · unfold Blk
    rw [alloc5, if_neg (by omega), if_pos rfl]
  · unfold Blk
    rw [alloc5, if_neg (by omega), if_neg (by omega), if_pos rfl]
  · exact ((((((Below.refl _ w).alloc (Nat.le_refl _) _).alloc (by simp) _).alloc (by simp; omega) _).alloc (by simp; omega) _).alloc (by simp; omega) _)
end

set_option maxRecDepth 100000 in
set_option maxHeartbeats 4000000 in
theorem all_any (w : World) (B : Nat) (hb : Option Nat) (lv : Value) (Ls : List Lo) (os : List Ob) (p : Int) (ps : List Nat) (hat : HpO w B hb lv Ls os) (hT : Tied os) (hch : Chain os p ps) (hn : ∀ o ∈ os, o.keys.length ≤ 100000) (hps : ps.length ≤ 10000) :
    Calls Try.prog 21 #[ptrO hb, .int .i64 p] w fun e w' => ∃ v, e = .returned v ∧ w'.ownsRow w.heap.size 9 1 v (allK os ps).length ((allK os ps).map Value.string) ∧ Below w.heap.size w w' := by
  refine (callsIn_wide (n := 5)).1 (callsIn_of_wp_marks Try.func21 rfl trivial (wpIn_wide.2 ?_) rfl)
  simp only [Try.ntmps21, List.size_toArray, List.length_cons, List.length_nil, Nat.reduceAdd, Nat.reduceSub, Array.replicate_succ, Array.replicate_zero, List.push_toArray, List.append_toArray, List.nil_append, List.cons_append]
  go_wp2_with (go_at_call 31; refine (chain_calls _ _ _).mono ?_; rintro e w' ⟨rfl, rfl⟩)
  refine wpIn_wide.1 (range_outer (n := 5) rfl (by omega) (gf := 40) (lb := #[.pointer (some ⟨w.heap.size + 1, 0, none⟩), .pointer (some ⟨w.heap.size + 1 + 1, 0, none⟩)]) rfl trivial (enters_of Try.func40 (by kernel_rfl) rfl) ?_)
  intro fn R _ hR
  simp only [World.size_alloc] at hR ⊢
  refine (chain1_in 4 _ B hb (w.heap.size + 1) (w.heap.size + 1 + 1) lv Ls os hT (fun pre W => ∃ q, AllJ w B hb lv Ls os (R .ready none) (allK os pre) q W) (fun _ => False) ?_ ?_ ?_ ps ?_ _ p hch ?_ ?_).mono ?_
  · rintro pre W ⟨q, hj⟩
    exact ⟨hj.hat, hj.bh.cell 0, hj.bp.frozen 0⟩
  · rintro pre W ⟨q, hj⟩
    exact ⟨q, hj.drew⟩
  · rintro pre W v ⟨q, hj⟩
    exact ⟨v, hj.setp hat v⟩
  · rintro pre i rest L o W hpr ⟨q, hj⟩ hL ho
    refine (yield_of hR (fun W' => AllJ w B hb lv Ls os (R .ready none) (allK os (pre ++ [i])) q W') (fun _ _ => False) trivial hj.rc rfl ?_).mono ?_
    · clear hR
      have hlen : (allK os pre).length ≤ pre.length * 100000 := by have := allK_len hn pre []; simpa [allK] using this
      have hpl : pre.length < 10000 := by
        have := congrArg List.length hpr
        simp at this
        omega
      have hkl : o.keys.length ≤ 100000 := hn o (List.mem_of_getElem? ho)
      have hsum : ∀ j, (addAll (allK os pre) (o.keys.take j)).length ≤ 1000200000 := fun j => by
        have h1 := addAll_len (o.keys.take j) (allK os pre)
        have h2 : (o.keys.take j).length ≤ o.keys.length := by simp; omega
        omega
      have HSUM := Lib.hid hsum
      have HEND : Hid (allK os (pre ++ [i]) = addAll (allK os pre) (o.keys.take o.keys.length)) := by
        refine Lib.hid ?_
        simp [allK, keysAt, ho]
      clear hsum hlen hpl hpr
      gi_wp2
      refine ⟨hj.rc, ?_⟩
      have hj1 := hj.turned hat (R .busy none)
      obtain ⟨W1, hW1⟩ : ∃ W1, W.putObj (w.heap.size + 1 + 1 + 1 + 1) (R .busy none) = W1 := ⟨_, rfl⟩
      rw [hW1] at hj1 ⊢
      clear hW1 hj
      have hO := hj1.hat.obj hL ho
      have hck : W1.cell? ⟨L.ob, 4, none⟩ = some L.kv := by rw [hO.blk.cell]; rfl
      obtain ⟨A, c, hkv⟩ := own_slice hO.row
      rw [hkv] at hck
      have HO := Lib.hid ho
      have HL := Lib.hid hL
      have HKV := Lib.hid hkv
      have HAT := Lib.hid hat
      have HJ1 := Lib.hid hj1
      have hkm : o.keys.length ≤ 100000 := hkl
      clear hO ho hL hkv hat hT hch hn hps hj1 hkl
      gi_wp2
      gi_loopw [18] (fun x wr => ∃ j : Nat, j ≤ o.keys.length ∧ x = .int .i64 j ∧ AllJ w B hb lv Ls os (R .busy none) (addAll (allK os pre) (o.keys.take j)) q wr) (fun x _ => o.keys.length - (intOf x).toNat)
      case atStart => exact ⟨0, by omega, rfl, HJ1.out⟩
      case round =>
        obtain ⟨j, hjl, rfl, hjj⟩ := hrel
        clear hck
        by_cases hlt : j < o.keys.length
        · have hx : o.keys[j]? = some o.keys[j] := List.getElem?_eq_getElem hlt
          generalize o.keys[j] = x at hx
          have hO := hjj.hat.obj HL.out HO.out
          obtain ⟨A', c', hkv', hcells⟩ := SlR.of_own hO.row
          obtain ⟨b1, o1, hA', hb1, hc1⟩ := hcells j (.string x) (by simp [hx])
          rw [HKV.out] at hkv'
          injection hkv' with hAA hl1 hl2
          clear hl1 hl2
          subst hAA
          subst hA'
          clear hcells hO
          obtain ⟨v, hvb, hvo⟩ := hjj.ob
          have hv0 := hvb.cell 0
          have hvf := hvb.frozen 0
          have hvs : Hid (SlR wr v ((addAll (allK os pre) (o.keys.take j)).map Value.string)) := SlR.of_own hvo
          have hzl := (Array.getElem?_eq_some_iff.1 hjj.rc).1
          have HJ := Lib.hid hjj
          have HX := Lib.hid hx
          have HVO := Lib.hid hvo
          have HNX : Hid (addAll (allK os pre) (o.keys.take (j + 1)) = addK (addAll (allK os pre) (o.keys.take j)) x) := by
            refine Lib.hid ?_
            rw [List.take_add_one, hx]
            simp [addAll]
          clear hjj hx hvo hvb
          cases hm : memS x (addAll (allK os pre) (o.keys.take j)) with
          | true =>
            have HM := Lib.hid hm
            clear hm
            gi_wp2
            refine ⟨trivial, (CallsIn.inRound _ (callsIn_wide.2 (contains_calls wr v _ x hvs.out (Nat.le_trans (HSUM.out j) (by decide))))).mono ?_⟩
            rintro e w' ⟨rfl, rfl⟩
            rw [HM.out]
            gi_wp2
            go_roundw
            case rel => exact ⟨j + 1, by omega, by go_num, by rw [HNX.out, addK, if_pos HM.out]; exact HJ.out⟩
            case measure => simp [intOf]; omega
          | false =>
            have HM := Lib.hid hm
            clear hm
            obtain ⟨i0, hi, hz0, hz1, hz2⟩ := info_parts info_str
            have hlen := HSUM.out j
            gi_wp2
            refine ⟨trivial, (CallsIn.inRound _ (callsIn_wide.2 (contains_calls wr v _ x hvs.out (Nat.le_trans (HSUM.out j) (by decide))))).mono ?_⟩
            rintro e w' ⟨rfl, rfl⟩
            rw [HM.out]
            gi_wp2_with (gi_at_builtin; refine wpListIn_append_own _ rfl _ _ 38 rfl (w.heap.size + 1 + 1 + 1 + 1 + 1) 9 i0 (.string { data := #[] }) 1 16 Try.underlying38 hi hz0 hz1 hz2 rfl (by decide) v _ _ rfl (HVO.out.alloc _) ⟨wr.heap.size, 0, none⟩ 1 1 [.string x] rfl rfl (World.news_of_block (cs := #[.string x]) (t := 9) (fr := (0, 0)) (Blk.new wr _ _)) (by simp [Value.oneCell']) ?ml ?byt ?bs ?_)
            case ml => simp only [maxLen]; omega
            case byt => omega
            case bs => simp; omega
            intro v' W2 hown hgrow hnil
            have hpu := HJ.out.push HAT.out hv0 hown hgrow
            have hbx := HJ.out.box hv0 hgrow
            have hb2 : W2.cell? ⟨w.heap.size, 0, none⟩ = some v := hbx.cell 0
            have hf2 : W2.frozen? ⟨w.heap.size, 0, none⟩ = false := hbx.frozen 0
            obtain ⟨A2, c2, rfl⟩ := own_slice hown
            clear hbx
            have HPU := Lib.hid hpu
            clear hpu hown hgrow hnil hi hz0 hz1 hz2
            gi_wp2
            go_roundw
            case rel => exact ⟨j + 1, by omega, by go_num, by rw [HNX.out, addK, if_neg (by rw [HM.out]; simp)]; exact HPU.out⟩
            case measure => simp [intOf]; omega
        · obtain rfl : j = o.keys.length := by omega
          have hd : decide ((o.keys.length : Int) < (o.keys.length : Int)) = false := by simp
          have HJ := Lib.hid hjj
          clear hjj
          gi_wp2
          refine ⟨HJ.out.rc, ?_⟩
          rw [HEND.out]
          exact HJ.out.turned HAT.out (R .ready none)
    · rintro e W' (⟨rfl, h1⟩ | ⟨rfl, c, h1⟩)
      · exact .inl ⟨rfl, ⟨_, h1⟩, by rw [h1.bp.cell 0, hj.bp.cell 0]⟩
      · exact h1.elim
  · exact (allJ_init hat p (R .ready none)).bp.cell 0
  · exact ⟨_, allJ_init hat p (R .ready none)⟩
  · rintro e W ⟨hv, ⟨q, hj⟩ | hx⟩
    · refine ⟨hv, hj.dd, .inl ⟨hj.rc, ?_⟩⟩
      clear hR
      have hj1 := hj.turned hat (R .exhausted none)
      obtain ⟨W1, hW1⟩ : ∃ W1, W.putObj (w.heap.size + 1 + 1 + 1 + 1) (R .exhausted none) = W1 := ⟨_, rfl⟩
      rw [hW1] at hj1 ⊢
      clear hW1 hj
      obtain ⟨v, hvb, hvo⟩ := hj1.ob
      have c0 := hvb.cell 0
      go_wp2
      refine ⟨by simp, .inl ⟨_, _, rfl, run_takeDeferred hj1.dd, ?_⟩⟩
      have hd := hj1.dd
      have hvo' := own_keep (w' := W1.putObj (w.heap.size + 1 + 1 + 1) (.deferred none)) hvo (fun g hg => putObj_old (by have := (hvo.lt g hg).1; omega))
      have hl := hj1.low.grown (grownBy_putObj' W1 (w.heap.size + 1 + 1 + 1) (.deferred none)) hj1.low.size (fun k e => by cases e; omega)
      refine ⟨v, ?_, ⟨v, rfl, own_mono hvo' (fun g hg => by have := (hvo.lt g hg).1; omega), hl⟩⟩
      simp [results, Try.f21, go_sem]
    · exact hx.elim

end Go.Proofs.Ytbdkbjfaialeoaa
