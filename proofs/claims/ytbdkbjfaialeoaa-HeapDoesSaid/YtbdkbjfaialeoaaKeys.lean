/- Keys of package heap, slices.Clone at []string, the document's Same. -/
import Derived.Test.YtbdkbjfaialeoaaHeapN
import Derived.WideShapes
namespace Go.Proofs.Ytbdkbjfaialeoaa
open Go.RowKit Go.Sort

/-- The slice value v reads as these one-cell elements. -/
def SlR (w : World) (v : Value) (xs : List Value) : Prop :=
  ∃ A c, v = .slice A xs.length c ∧ ∀ (k : Nat) (u : Value), xs[k]? = some u → ∃ b o, A = some ⟨b, o, none⟩ ∧ b < w.heap.size ∧ w.cell? ⟨b, o + k, none⟩ = some u

theorem SlR.of_own {w : World} {base : Nat} {e : TypeId} {v : Value} {n : Nat} {xs : List Value} (h : w.ownsRow base e 1 v n xs) : SlR w v xs := by
  have hl : xs.length = n := by have := h.1; omega
  subst hl
  obtain ⟨A, c, rfl⟩ := own_slice h
  refine ⟨A, c, rfl, fun k u hk => ?_⟩
  have hlt : k < xs.length := (List.getElem?_eq_some_iff.1 hk).1
  obtain ⟨g, cap, hv, _, hg⟩ := h.form (by omega)
  injection hv with hA
  subst hA
  refine ⟨g, 0, rfl, hg, ?_⟩
  have := h.cells (g := g) rfl k u hk
  have hadd : (⟨g, 0, none⟩ : Addr).add k = ⟨g, k, none⟩ := by unfold Addr.add; split <;> simp_all
  rw [hadd] at this
  rw [Nat.zero_add]
  exact this

theorem SlR.below {w w' : World} {v : Value} {xs : List Value} (h : SlR w v xs) (hb : Below w.heap.size w w') : SlR w' v xs := by
  obtain ⟨A, c, rfl, hc⟩ := h
  refine ⟨A, c, rfl, fun k u hk => ?_⟩
  obtain ⟨b, o, rfl, hlt, hcell⟩ := hc k u hk
  exact ⟨b, o, rfl, Nat.lt_of_lt_of_le hlt hb.size, (hb.cell (p := ⟨b, o + k, none⟩) hlt).trans hcell⟩

theorem SlR.block {w : World} {g : Nat} {e : TypeId} {xs : List Value} {c : Nat} (h : Blk w g e xs.toArray) : SlR w (.slice (some ⟨g, 0, none⟩) xs.length c) xs := by
  refine ⟨_, c, rfl, fun k u hk => ⟨g, 0, rfl, h.lt, ?_⟩⟩
  rw [Nat.zero_add, h.cell]
  simpa using hk

/-- Are two lists of texts the same? -/
def sameS (xs ys : List ByteArray) : Bool := decide (xs = ys)

set_option maxHeartbeats 1000000 in
theorem same_calls (w : World) (u v : Value) (xs ys : List ByteArray) (hu : SlR w u (xs.map Value.string)) (hv : SlR w v (ys.map Value.string)) (hm : xs.length ≤ maxLen) :
    Calls Try.prog 20 #[u, v] w fun e w' => e = .returned (.bool (sameS xs ys)) ∧ Below w.heap.size w w' := by
  unfold maxLen at hm
  obtain ⟨A, c, rfl, hA⟩ := hu
  obtain ⟨B, d, rfl, hB⟩ := hv
  simp only [List.length_map] at *
  have HA := Lib.hid hA
  have HB := Lib.hid hB
  clear hA hB
  by_cases hlen : xs.length = ys.length
  · have hb : decide ((xs.length : Int) = (ys.length : Int)) = true := by simp [hlen]
    go_enter Try.func20, Try.ntmps20
    go_wp2
    go_loopw [5] (fun i wr => ∃ k : Nat, k ≤ xs.length ∧ i = .int .i64 k ∧ xs.take k = ys.take k ∧ Below w.heap.size w wr) (fun i _ => xs.length - (intOf i).toNat)
    case atStart => exact ⟨0, by omega, rfl, rfl, Below.refl _ _⟩
    case round =>
      obtain ⟨k, hk, rfl, htk, hbel⟩ := hrel
      by_cases hlt : k < xs.length
      · have hx : xs[k]? = some xs[k] := List.getElem?_eq_getElem hlt
        have hy : ys[k]? = some (ys[k]'(by omega)) := List.getElem?_eq_getElem (by omega)
        generalize xs[k] = x at hx
        generalize ys[k]'(by omega) = y at hy
        obtain ⟨b1, o1, rfl, hb1, hc1⟩ := HA.out k (.string x) (by simp [hx])
        obtain ⟨b2, o2, rfl, hb2, hc2⟩ := HB.out k (.string y) (by simp [hy])
        replace hc1 := (hbel.cell (p := ⟨b1, o1 + k, none⟩) hb1).trans hc1
        replace hc2 := (hbel.cell (p := ⟨b2, o2 + k, none⟩) hb2).trans hc2
        have hlt2 : k < ys.length := by omega
        have HX := Lib.hid hx
        have HY := Lib.hid hy
        clear hx hy
        by_cases hxy : x = y
        · subst hxy
          have HT := Lib.hid htk
          clear htk
          have heq : (x.toList == x.toList) = true := by simp
          go_wp2
          go_region
          go_wp2
          go_roundw
          case rel => exact ⟨k + 1, by omega, by go_num, by rw [List.take_add_one, List.take_add_one, HT.out, HX.out, HY.out], hbel.drew⟩
          case measure => simp [intOf]; omega
        · have hs : sameS xs ys = false := by
            unfold sameS
            rw [decide_eq_false_iff_not]
            exact fun h => hxy (by have := HX.out; rw [h, HY.out] at this; injection this with this; exact this.symm)
          have HS := Lib.hid hs
          clear hs
          have hne : (x.toList == y.toList) = false := by
            rw [ByteArray.toList_eq, ByteArray.toList_eq, beq_eq_false_iff_ne]
            exact fun h => hxy (Go.WideShapes.bytes_inj h)
          go_wp2
          go_region
          go_wp2
          go_ret
          exact ⟨by rw [HS.out]; rfl, hbel.drew⟩
      · obtain rfl : k = xs.length := by omega
        have hs : sameS xs ys = true := by
          unfold sameS
          rw [decide_eq_true_iff]
          rw [List.take_length, hlen, List.take_length] at htk
          exact htk
        have HS := Lib.hid hs
        clear hs
        have hd : decide ((xs.length : Int) < (ys.length : Int)) = false := by simp; omega
        clear htk
        go_wp2
        go_ret
        exact ⟨by rw [HS.out]; rfl, hbel⟩
  · have hb : decide ((xs.length : Int) = (ys.length : Int)) = false := by simp; omega
    have hs : sameS xs ys = false := by
      unfold sameS
      rw [decide_eq_false_iff_not]
      exact fun h => hlen (by rw [h])
    rw [hs]
    go_enter Try.func20, Try.ntmps20
    go_wp2
    go_ret
    exact ⟨rfl, Below.refl _ _⟩


set_option maxHeartbeats 1000000 in
theorem clone_nil (w : World) : Calls Try.prog 33 #[.slice none 0 0] w fun e w' => e = .returned (.slice none 0 0) ∧ w = w' := by
  have q : ∀ (w : World) (a : Option Addr) (n c n' c' : Nat), (binOp .eql 38 (.slice a n c) (.slice none n' c')).run Try.prog w = .ok (.bool a.isNone) w := fun w a n c n' c' => Lib.run_eql_slice_nil w _ _ a n c n' c' Try.underlying38
  go_enter Try.func33, Try.ntmps33
  go_wp2
  go_ret
  exact ⟨rfl, rfl⟩

set_option maxHeartbeats 1000000 in
theorem clone_calls (w : World) (n c : Nat) (xs : List Value) (g : Nat) (hn : xs.length = n) (hm : n ≤ 1000000) (h1 : ∀ u ∈ xs, u.oneCell' = true) (hc : ∀ (j : Nat) (u : Value), xs[j]? = some u → w.cell? ⟨g, j, none⟩ = some u) :
    Calls Try.prog 33 #[.slice (some ⟨g, 0, none⟩) n c] w fun e w' => ∃ v, e = .returned v ∧ w'.ownsRow w.heap.size 9 1 v n xs ∧ Below w.heap.size w w' := by
  have q : ∀ (w : World) (a : Option Addr) (n c n' c' : Nat), (binOp .eql 38 (.slice a n c) (.slice none n' c')).run Try.prog w = .ok (.bool a.isNone) w := fun w a n c n' c' => Lib.run_eql_slice_nil w _ _ a n c n' c' Try.underlying38
  have HC := Lib.hid hc
  have H1 := Lib.hid h1
  clear hc h1
  obtain ⟨i0, hi, hz0, hz1, hz2⟩ := info_parts info_str
  go_enter Try.func33, Try.ntmps33
  go_wp2_with (at_builtin; refine wpList_append_own _ rfl _ _ 38 rfl w.heap.size 9 i0 (.string { data := #[] }) 1 16 Try.underlying38 hi hz0 hz1 hz2 rfl (by decide) _ _ _ rfl (World.ownsRow_made w #[] 0 (Nat.le_refl _) (Nat.zero_le _) rfl) ⟨g, 0, none⟩ n c xs rfl ?qc1 ?qc2 ?qc3 ?qc4 ?qc5 ?qc6 ?_)
  case qc1 => simpa using hn
  case qc2 =>
    intro j u hj
    rw [Addr.add_lit, Nat.zero_add]
    exact Lib.cell?_alloc_some _ (HC.out j u hj)
  case qc3 => exact H1.out
  case qc4 => unfold maxLen; omega
  case qc5 => omega
  case qc6 => simp
  intro v' w1 hown hgrow hnil
  clear q
  go_wp2
  go_ret
  refine ⟨v', rfl, by simpa using hown, ((Below.refl _ w).alloc (Nat.le_refl _) _).grown hgrow (by simp) (by intro k hk; simp [Value.ownBlock] at hk; omega)⟩

/-- The object at a place, if there is one. -/
def objT (os : List Ob) (p : Int) : Option Ob := if 0 ≤ p then os[p.toNat]? else none
def keysT (os : List Ob) (p : Int) : List ByteArray := ((objT os p).map Ob.keys).getD []
theorem objT_nat (os : List Ob) (p : Nat) : objT os p = os[p]? := by simp [objT]
theorem objT_out {os : List Ob} {p : Int} (h : p < 0 ∨ os.length ≤ p) : objT os p = none := by
  unfold objT
  split
  · rw [List.getElem?_eq_none_iff]; omega
  · rfl
theorem objT_in {os : List Ob} {p : Int} (h : ¬ (p < 0 ∨ os.length ≤ p)) : ∃ (k : Nat) (o : Ob), p = k ∧ os[k]? = some o ∧ objT os p = some o := by
  obtain ⟨k, rfl⟩ := Int.eq_ofNat_of_zero_le (show 0 ≤ p by omega)
  have hk : k < os.length := by omega
  exact ⟨k, os[k], rfl, List.getElem?_eq_getElem hk, by rw [objT_nat, List.getElem?_eq_getElem hk]⟩

set_option maxHeartbeats 1000000 in
theorem keys_out (w : World) (p : Int) (q : Option Addr) (hhas : Calls Try.prog 30 #[.pointer q, .int .i64 p] w fun e w' => e = .returned (.bool false) ∧ w = w') :
    Calls Try.prog 18 #[.pointer q, .int .i64 p] w fun e w' => e = .returned (.slice none 0 0) ∧ w = w' := by
  have H := Lib.hid hhas
  clear hhas
  go_enter Try.func18, Try.ntmps18
  go_wp2_with (go_at_call 30; refine H.out.mono ?_; rintro e w' ⟨rfl, rfl⟩)
  go_ret
  exact ⟨rfl, rfl⟩

set_option maxHeartbeats 1000000 in
theorem keys_in (w : World) (B hb : Nat) (F : Nat → Prop) (os : List Ob) (p : Nat) (o : Ob) (h : Hp w B hb F os) (ho : os[p]? = some o) (hn : o.keys.length ≤ 1000000) :
    Calls Try.prog 18 #[.pointer (some ⟨hb, 0, none⟩), .int .i64 p] w fun e w' => ∃ v, e = .returned v ∧ w'.ownsRow w.heap.size 9 1 v o.keys.length (o.keys.map Value.string) ∧ Below w.heap.size w w' := by
  obtain ⟨g, cap, L, hc, hg, hO⟩ := h.way ho
  have hp : p < os.length := (List.getElem?_eq_some_iff.1 ho).1
  have hp1 : (p : Int) < os.length := by omega
  have hkv : w.cell? ⟨L.ob, 4, none⟩ = some L.kv := by rw [hO.blk.cell]; rfl
  have hrow := hO.row
  clear hO h ho
  by_cases h0 : o.keys.length = 0
  · have hnil : o.keys = [] := List.eq_nil_of_length_eq_zero h0
    rcases hrow.2 with ⟨hkv0, _⟩ | ⟨g2, cap2, cur, hkv0, _, _, _, _, _, _⟩
    · rw [hkv0] at hkv
      have HR : Hid (w.ownsRow w.heap.size 9 1 (.slice none 0 0) o.keys.length (o.keys.map Value.string)) := by
        rw [hnil]; exact World.ownsRow_nil _ _ _ _
      clear hrow hkv0 hnil h0
      go_enter Try.func18, Try.ntmps18
      go_wp2_with (first | (go_at_call 30; refine (has_in _ hb os.length cap _ p hc (by omega) hp1).mono ?_; rintro e w' ⟨rfl, rfl⟩) | (go_at_call 33; refine (clone_nil w).mono ?_; rintro e w' ⟨rfl, rfl⟩))
      go_ret
      exact ⟨_, rfl, HR.out, Below.refl _ _⟩
    · have HC : Hid (∀ (j : Nat) (u : Value), (o.keys.map Value.string)[j]? = some u → w.cell? ⟨g2, j, none⟩ = some u) := fun j u hj => by simp [hnil] at hj
      rw [hkv0] at hkv
      clear hrow hkv0 hnil h0
      go_enter Try.func18, Try.ntmps18
      go_wp2_with (first | (go_at_call 30; refine (has_in _ hb os.length cap _ p hc (by omega) hp1).mono ?_; rintro e w' ⟨rfl, rfl⟩) | (go_at_call 33; refine (clone_calls w o.keys.length cap2 (o.keys.map Value.string) g2 (by simp) hn (by simp [Value.oneCell']) HC.out).mono ?_; rintro e w' ⟨v, rfl, hv⟩; have HV := Lib.hid hv; clear hv))
      go_ret
      exact ⟨_, rfl, HV.out⟩
  · obtain ⟨g2, cap2, hkv0, _, _⟩ := hrow.form (by omega)
    have HC : Hid (∀ (j : Nat) (u : Value), (o.keys.map Value.string)[j]? = some u → w.cell? ⟨g2, j, none⟩ = some u) := fun j u hj => by
      have := hrow.cells (g := g2) (by rw [hkv0]; rfl) j u hj
      have hadd : (⟨g2, 0, none⟩ : Addr).add j = ⟨g2, j, none⟩ := by unfold Addr.add; split <;> simp_all
      rw [hadd] at this
      exact this
    rw [hkv0] at hkv
    clear hrow hkv0 h0
    go_enter Try.func18, Try.ntmps18
    go_wp2_with (first | (go_at_call 30; refine (has_in _ hb os.length cap _ p hc (by omega) hp1).mono ?_; rintro e w' ⟨rfl, rfl⟩) | (go_at_call 33; refine (clone_calls w o.keys.length cap2 (o.keys.map Value.string) g2 (by simp) hn (by simp [Value.oneCell']) HC.out).mono ?_; rintro e w' ⟨v, rfl, hv⟩; have HV := Lib.hid hv; clear hv))
    go_ret
    exact ⟨_, rfl, HV.out⟩

theorem keys_calls (w : World) (B hb : Nat) (F : Nat → Prop) (os : List Ob) (p : Int) (h : Hp w B hb F os) (hn : ∀ o ∈ os, o.keys.length ≤ 1000000) :
    Calls Try.prog 18 #[.pointer (some ⟨hb, 0, none⟩), .int .i64 p] w fun e w' => ∃ v, e = .returned v ∧ w'.ownsRow w.heap.size 9 1 v (keysT os p).length ((keysT os p).map Value.string) ∧ Below w.heap.size w w' := by
  by_cases hp : p < 0 ∨ os.length ≤ p
  · obtain ⟨A, cap, hc⟩ := h.cell
    refine (keys_out w p _ (has_out w hb os.length cap A p hc hp)).mono ?_
    rintro e w' ⟨rfl, rfl⟩
    refine ⟨_, rfl, ?_, Below.refl _ _⟩
    rw [keysT, objT_out hp]
    exact World.ownsRow_nil _ _ _ _
  · obtain ⟨k, o, rfl, ho, hoT⟩ := objT_in hp
    rw [keysT, hoT]
    exact keys_in w B hb F os k o h ho (hn o (List.mem_of_getElem? ho))

theorem keys_nil (w : World) (p : Int) : Calls Try.prog 18 #[.pointer none, .int .i64 p] w fun e w' => e = .returned (.slice none 0 0) ∧ w = w' := keys_out w p none (has_nil w p)

end Go.Proofs.Ytbdkbjfaialeoaa
