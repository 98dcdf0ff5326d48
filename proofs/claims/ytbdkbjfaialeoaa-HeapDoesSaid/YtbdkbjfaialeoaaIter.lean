/- The iterator of package heap: an object and those behind it. -/
import Derived.Test.YtbdkbjfaialeoaaHeapN
import Derived.Test.YtbdkbjfaialeoaaRange
import Derived.Shelf.Abstract
import Derived.Shelf.RegionOpen
namespace Go.Proofs.Ytbdkbjfaialeoaa
open Go.RowKit Go.Shelf Go.Sort
attribute [local go_sem] Oper.semAt_some

/-- What is behind an object was there ahead of it. -/
def Tied (os : List Ob) : Prop := ∀ (i : Nat) (o : Ob), os[i]? = some o → -1 ≤ o.o.proto ∧ o.o.proto < i

/-- The places of a chain. -/
inductive Chain (os : List Ob) : Int → List Nat → Prop
  | stop {p : Int} : (p < 0 ∨ os.length ≤ p) → Chain os p []
  | step {p : Nat} {o : Ob} {l : List Nat} : os[p]? = some o → Chain os o.o.proto l → Chain os p (p :: l)

theorem Chain.nat {os : List Ob} (h : Tied os) : ∀ (m : Nat) (p : Int), p < m → ∃ l, Chain os p l := by
  intro m
  induction m with
  | zero => exact fun p hp => ⟨[], .stop (.inl (by omega))⟩
  | succ m ih =>
    intro p hp
    by_cases h0 : 0 ≤ p ∧ p < os.length
    · obtain ⟨q, rfl⟩ := Int.eq_ofNat_of_zero_le h0.1
      have hq : q < os.length := by omega
      have := (h q os[q] (List.getElem?_eq_getElem hq)).2
      obtain ⟨l, hl⟩ := ih os[q].o.proto (by omega)
      exact ⟨q :: l, .step (List.getElem?_eq_getElem hq) hl⟩
    · exact ⟨[], .stop (by omega)⟩
theorem Chain.any {os : List Ob} (h : Tied os) (p : Int) : ∃ l, Chain os p l := by
  by_cases hp : 0 ≤ p
  · exact Chain.nat h (p.toNat + 1) p (by omega)
  · exact ⟨[], .stop (by omega)⟩

set_option maxHeartbeats 1000000 in
theorem chain_calls (w : World) (q : Option Addr) (p : Int) :
    Calls Try.prog 31 #[.pointer q, .int .i64 p] w fun e w' => e = .returned (.func (.func 40) #[] #[.pointer (some ⟨w.heap.size, 0, none⟩), .pointer (some ⟨w.heap.size + 1, 0, none⟩)]) ∧
      (w.alloc (.cells #[.pointer q] 23)).alloc (.cells #[.int .i64 p] 3) = w' := by
  go_enter Try.func31, Try.ntmps31
  go_wp2
  go_ret
  exact ⟨rfl, rfl⟩

/-- The place that a box holds, for the loop's measure. -/
def placeAt (b : Nat) (W : World) : Nat := match W.cell? ⟨b, 0, none⟩ with
  | some (.int _ p) => (p + 1).toNat
  | _ => 0

/-- A heap that may be nil: then it holds nothing. -/
def HpO (w : World) (B : Nat) : Option Nat → Value → List Lo → List Ob → Prop
  | some hb, lv, Ls, os => HpAt w B hb lv Ls os
  | none, _, Ls, os => os = [] ∧ Ls = []
def FootO : Option Nat → Value → List Lo → Nat → Prop
  | some hb, lv, Ls, k => Foot hb lv Ls k
  | none, _, _, _ => False
abbrev ptrO (q : Option Nat) : Value := .pointer (q.map fun hb => ⟨hb, 0, none⟩)
theorem HpO.keep {w w' : World} {B : Nat} {q : Option Nat} {lv : Value} {Ls : List Lo} {os : List Ob} (h : HpO w B q lv Ls os) (hk : ∀ k, FootO q lv Ls k → w'.heap[k]? = w.heap[k]?) : HpO w' B q lv Ls os := by
  cases q with
  | none => exact h
  | some hb => exact HpAt.keep (w' := w') h hk
theorem HpO.foot {w : World} {B : Nat} {q : Option Nat} {lv : Value} {Ls : List Lo} {os : List Ob} (h : HpO w B q lv Ls os) : ∀ k, FootO q lv Ls k → k < w.heap.size := by
  cases q with
  | none => exact fun k hk => hk.elim
  | some hb => exact fun k hk => (HpAt.foot h k hk).2
theorem HpO.obj {w : World} {B : Nat} {q : Option Nat} {lv : Value} {Ls : List Lo} {os : List Ob} (h : HpO w B q lv Ls os) {i : Nat} {L : Lo} {o : Ob} (hL : Ls[i]? = some L) (ho : os[i]? = some o) : ObjAt w B L o := by
  cases q with
  | none =>
    obtain ⟨rfl, rfl⟩ := h
    simp at ho
  | some hb => exact HpAt.obj h i L o hL ho

/-- What the iterator wants of the world between two rounds. -/
structure IterOk (w : World) (B : Nat) (q : Option Nat) (Bh Bp : Nat) (lv : Value) (Ls : List Lo) (os : List Ob) : Prop where
  hat : HpO w B q lv Ls os
  box : w.cell? ⟨Bh, 0, none⟩ = some (ptrO q)
  fz : w.frozen? ⟨Bp, 0, none⟩ = false

set_option maxRecDepth 100000 in
set_option maxHeartbeats 1000000 in
theorem chain1_in (n : Nat) (l B : Nat) (qh : Option Nat) (Bh Bp : Nat) (lv : Value) (Ls : List Lo) (os : List Ob) (hT : Tied os) (J : List Nat → World → Prop) (Jx : World → Prop)
    (hJ : ∀ pre W, J pre W → IterOk W B qh Bh Bp lv Ls os) (hJd : ∀ pre W, J pre W → J pre W.drew) (hJs : ∀ pre W v, J pre W → J pre (W.setCell ⟨Bp, 0, none⟩ v))
    (ps : List Nat) (hY : ∀ pre (i : Nat) rest L o W, ps = pre ++ i :: rest → J pre W → Ls[i]? = some L → os[i]? = some o → YieldAt Fence.wide (n - 1) Try.prog l #[.pointer (some ⟨L.ob, 0, none⟩)] W fun e W' =>
      (e = .returned (.bool true) ∧ J (pre ++ [i]) W' ∧ W'.cell? ⟨Bp, 0, none⟩ = W.cell? ⟨Bp, 0, none⟩) ∨ (e = .returned (.bool false) ∧ Jx W'))
    (W : World) (p : Int) (hch : Chain os p ps) (hp : W.cell? ⟨Bp, 0, none⟩ = some (.int .i64 p)) (h0 : J [] W) :
    CallsIn Fence.wide n Try.prog 40 #[.func (.yield l) #[] #[], .pointer (some ⟨Bh, 0, none⟩), .pointer (some ⟨Bp, 0, none⟩)] W fun e W' => (∃ v, e = .returned v) ∧ (J ps W' ∨ Jx W') := by
  have HJ := Lib.hid hJ
  have HD := Lib.hid hJd
  have HS := Lib.hid hJs
  have HY := Lib.hid hY
  have HT := Lib.hid hT
  clear hJ hJd hJs hY hT
  refine callsIn_of_wp Try.func40 rfl trivial ?_ rfl
  simp only [Try.ntmps40, List.size_toArray, List.length_cons, List.length_nil, Nat.reduceAdd, Nat.reduceSub, Array.replicate_succ, Array.replicate_zero, List.push_toArray, List.append_toArray, List.nil_append, List.cons_append]
  gi_wp2
  gi_loopw [4] (fun _ wr => ∃ (pre rest : List Nat) (q : Int), ps = pre ++ rest ∧ Chain os q rest ∧ wr.cell? ⟨Bp, 0, none⟩ = some (.int .i64 q) ∧ J pre wr) (fun _ wr => placeAt Bp wr)
  case atStart => exact ⟨[], ps, p, rfl, hch, hp, h0⟩
  case round =>
    obtain ⟨pre, rest, q, hx, hc, hcp, hj⟩ := hrel
    have hok := HJ.out pre wr hj
    have hbh := hok.box
    have hfz := hok.fz
    have hat := hok.hat
    clear hok
    cases hc with
    | stop hq =>
      have HQ := Lib.hid hq
      clear hq
      have hhas : Calls Try.prog 30 #[ptrO qh, .int .i64 q] wr fun e w' => e = .returned (.bool false) ∧ wr = w' := by
        cases qh with
        | none => exact has_nil wr q
        | some hb =>
          have hat' : HpAt wr B hb lv Ls os := hat
          obtain ⟨A, cap, hA⟩ := own_slice hat'.row
          exact has_out wr hb os.length cap A q (by rw [hat'.blk.cell 0, ← hA]; rfl) HQ.out
      gi_wp2
      refine ⟨trivial, fun hh => (by cases hh), (callsIn_wide.2 hhas).mono ?_⟩
      rintro e w' ⟨rfl, rfl⟩
      gi_wp2
      go_end0
      exact ⟨⟨_, rfl⟩, .inl (by rw [hx]; simpa using hj)⟩
    | step ho hc =>
      rename_i q o rest
      obtain ⟨hb, rfl⟩ : ∃ hb, qh = some hb := by
        cases qh with
        | none =>
          obtain ⟨rfl, _⟩ := hat
          simp at ho
        | some hb => exact ⟨hb, rfl⟩
      replace hbh : wr.cell? ⟨Bh, 0, none⟩ = some (.pointer (some ⟨hb, 0, none⟩)) := hbh
      have hat' : HpAt wr B hb lv Ls os := hat
      obtain ⟨g, cap, L, hlv, hL, hc0, hg0, hO⟩ := hat'.way ho
      have hq0 : q < os.length := (List.getElem?_eq_some_iff.1 ho).1
      have hq1 : (q : Int) < os.length := by omega
      have hcpr : wr.cell? ⟨L.ob, 1, none⟩ = some (.int .i64 o.o.proto) := by rw [hO.blk.cell]; rfl
      obtain ⟨fn, tmps, assign, body, hy, hR⟩ := HY.out pre q rest L o _ hx (HD.out pre wr hj) hL ho
      clear hO hlv hat'
      gi_wp2
      refine ⟨trivial, fun hh => (by cases hh), (callsIn_wide.2 (has_in wr hb os.length cap _ q hc0 (by omega) hq1)).mono ?_⟩
      rintro e w' ⟨rfl, rfl⟩
      gi_wp2
      gi_region
      gi_wp2
      refine ⟨fun hh => (by cases hh), hR.mono ?_⟩
      rintro e W3 (⟨rfl, hj3, hk3⟩ | ⟨rfl, hx3⟩)
      · have hok3 := HJ.out _ W3 hj3
        have hat3 : HpAt W3 B hb lv Ls os := hok3.hat
        obtain ⟨g3, cap3, L3, hlv3, hL3, hc3, hg3, hO3⟩ := hat3.way ho
        have hLL : L3 = L := by rw [hL] at hL3; injection hL3 with hL3; exact hL3.symm
        subst hLL
        have hp3 : W3.cell? ⟨L3.ob, 1, none⟩ = some (.int .i64 o.o.proto) := by rw [hO3.blk.cell]; rfl
        have hf3 := hok3.fz
        have hc3' : W3.cell? ⟨Bp, 0, none⟩ = some (.int .i64 q) := hk3.trans hcp
        have hlt3 := (HT.out q o ho).2
        have hle3 := (HT.out q o ho).1
        clear hok3 hat3 hlv3 hO3 hL3 hk3
        gi_wp2
        go_roundw
        case rel => exact ⟨pre ++ [q], rest, o.o.proto, by simp [hx], hc, World.cell?_setCell_same' _ _ _ (by rw [hc3']; rfl), HS.out _ _ _ hj3⟩
        case measure =>
          simp only [placeAt, hcp]
          rw [World.cell?_setCell_same' _ _ _ (by rw [hc3']; rfl)]
          simp
          omega
      · gi_wp2
        refine bodyPost_ret (results_none rfl _ _ _) rfl ?_
        exact ⟨⟨_, rfl⟩, .inr hx3⟩

end Go.Proofs.Ytbdkbjfaialeoaa
