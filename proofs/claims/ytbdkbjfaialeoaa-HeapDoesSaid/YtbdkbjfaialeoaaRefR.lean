/- The document's heap: what it tells, walked. -/
import Derived.Test.YtbdkbjfaialeoaaRef
import Derived.Test.YtbdkbjfaialeoaaAll
namespace Go.Proofs.Ytbdkbjfaialeoaa
open Go.RowKit Go.Sort

theorem valsOf_at (o : Ob) : ∀ {ks : List ByteArray} {m : Nat} {k : ByteArray} (j : Nat), ks[m]? = some k → j < 3 → (valsOf o ks)[m * 3 + j]? = (valAt o k).cells[j]?
  | x :: ks, 0, k, j, hk, hj => by
    simp at hk
    subst hk
    simp only [valsOf, List.flatMap_cons]
    rw [List.getElem?_append_left (by simp [Vl.cells]; omega)]
    simp
  | x :: ks, m + 1, k, j, hk, hj => by
    have h1 := valsOf_at o (ks := ks) (m := m) j (by simpa using hk) hj
    simp only [valsOf, List.flatMap_cons] at h1 ⊢
    rw [List.getElem?_append_right (by simp [Vl.cells]; omega), ← h1]
    congr 1
    simp [Vl.cells]
    omega
  | [], _, _, _, hk, _ => by simp at hk

theorem ris_in (w : World) (rb n cap : Nat) (A : Option Addr) (p : Int) (hc : w.cell? ⟨rb, 0, none⟩ = some (.slice A n cap)) (h0 : 0 ≤ p) (hp : p < n) :
    Calls Try.prog 39 #[.pointer (some ⟨rb, 0, none⟩), .int .i64 p] w fun e w' => e = .returned (.bool true) ∧ w = w' := by
  go_enter Try.func39, Try.ntmps39
  go_wp2
  go_ret
  exact ⟨rfl, rfl⟩
theorem ris_out (w : World) (rb n cap : Nat) (A : Option Addr) (p : Int) (hc : w.cell? ⟨rb, 0, none⟩ = some (.slice A n cap)) (hp : p < 0 ∨ n ≤ p) :
    Calls Try.prog 39 #[.pointer (some ⟨rb, 0, none⟩), .int .i64 p] w fun e w' => e = .returned (.bool false) ∧ w = w' := by
  rcases hp with hp | hp
  · have h0 : ¬ 0 ≤ p := by omega
    go_enter Try.func39, Try.ntmps39
    go_wp2
    go_ret
    exact ⟨by simp, rfl⟩
  · have h0 : 0 ≤ p := by omega
    have h1 : ¬ p < n := by omega
    go_enter Try.func39, Try.ntmps39
    go_wp2
    go_ret
    exact ⟨by simp, rfl⟩

set_option maxHeartbeats 1000000 in
theorem robj_calls (w : World) (B rb : Nat) (F : Nat → Prop) (os : List Ob) (p : Int) (h : RHp w B rb F os) :
    Calls Try.prog 25 #[.pointer (some ⟨rb, 0, none⟩), .int .i64 p] w fun e w' => e = .returned (toldO (objT os p)) ∧ Below w.heap.size w w' := by
  by_cases hq : p < 0 ∨ os.length ≤ p
  · rw [objT_out hq]
    obtain ⟨A, cap, hc⟩ := h.cell
    have hlt : rb < w.heap.size := World.block_lt_of_cell? w _ hc
    have HP := Lib.hid hq
    clear hq h
    go_enter Try.func25, Try.ntmps25
    go_wp2_with (go_at_call 39; refine (ris_out _ rb os.length cap _ p (by rw [World.cell?_alloc_lt _ _ _ hlt]; exact hc) HP.out).mono ?_; rintro e w' ⟨rfl, rfl⟩)
    exact bodyPost_ret (v := toldO none) (by simp [results, Try.f25, go_sem, toldO]) rfl ⟨rfl, (Below.refl _ _).alloc (Nat.le_refl _) _⟩
  · obtain ⟨k, o, rfl, ho, hoT⟩ := objT_in hq
    rw [hoT]
    obtain ⟨g, cap, L, hc, hcs, hO, hgl⟩ := h.way ho
    have hlt : rb < w.heap.size := World.block_lt_of_cell? w _ hc
    have hk1 : k < os.length := (List.getElem?_eq_some_iff.1 ho).1
    have hk2 : (k : Int) < os.length := by omega
    have c0 : w.cell? ⟨g, k * 6, none⟩ = some (.int .i64 o.o.mark) := hcs 0 (by decide)
    have c1 : w.cell? ⟨g, k * 6 + 1, none⟩ = some (.int .i64 o.o.proto) := hcs 1 (by decide)
    have c2 : w.cell? ⟨g, k * 6 + 2, none⟩ = some (.int .i64 o.o.code) := hcs 2 (by decide)
    have c3 : w.cell? ⟨g, k * 6 + 3, none⟩ = some (.int .i64 o.o.frame) := hcs 3 (by decide)
    clear hcs hO h ho hoT hq
    go_enter Try.func25, Try.ntmps25
    go_wp2_with (go_at_call 39; refine (ris_in _ rb os.length cap _ k (by rw [World.cell?_alloc_lt _ _ _ hlt]; exact hc) (by omega) hk2).mono ?_; rintro e w' ⟨rfl, rfl⟩)
    exact bodyPost_ret (v := toldO (some o)) (by simp [results, Try.f25, go_sem, toldO]) rfl ⟨rfl, (Below.refl _ _).alloc (Nat.le_refl _) _⟩

set_option maxHeartbeats 1000000 in
theorem rkeys_calls (w : World) (B rb : Nat) (F : Nat → Prop) (os : List Ob) (p : Int) (h : RHp w B rb F os) :
    Calls Try.prog 26 #[.pointer (some ⟨rb, 0, none⟩), .int .i64 p] w fun e w' => ∃ v, e = .returned v ∧ SlR w v ((keysT os p).map Value.string) ∧ w = w' := by
  by_cases hq : p < 0 ∨ os.length ≤ p
  · rw [keysT, objT_out hq]
    obtain ⟨A, cap, hc⟩ := h.cell
    have HP := Lib.hid hq
    clear hq h
    go_enter Try.func26, Try.ntmps26
    go_wp2_with (go_at_call 39; refine (ris_out _ rb os.length cap _ p hc HP.out).mono ?_; rintro e w' ⟨rfl, rfl⟩)
    go_ret
    exact ⟨_, rfl, SlR.of_own (World.ownsRow_nil w 0 9 1), rfl⟩
  · obtain ⟨k, o, rfl, ho, hoT⟩ := objT_in hq
    rw [keysT, hoT]
    obtain ⟨g, cap, L, hc, hcs, hO, hgl⟩ := h.way ho
    have hk1 : k < os.length := (List.getElem?_eq_some_iff.1 ho).1
    have hk2 : (k : Int) < os.length := by omega
    have c4 : w.cell? ⟨g, k * 6 + 4, none⟩ = some L.kv := hcs 4 (by decide)
    obtain ⟨A, c, hkv⟩ := own_slice hO.krow
    rw [hkv] at c4
    have HSL : Hid (SlR w (.slice A o.keys.length c) (o.keys.map Value.string)) := by rw [← hkv]; exact SlR.of_own hO.krow
    clear hcs hO h ho hoT hq hkv
    go_enter Try.func26, Try.ntmps26
    go_wp2_with (go_at_call 39; refine (ris_in _ rb os.length cap _ k hc (by omega) hk2).mono ?_; rintro e w' ⟨rfl, rfl⟩)
    go_ret
    exact ⟨_, rfl, HSL.out, rfl⟩

set_option maxHeartbeats 2000000 in
theorem rown_calls (w : World) (B rb : Nat) (F : Nat → Prop) (os : List Ob) (p : Int) (key : ByteArray) (h : RHp w B rb F os) (hn : Small 100000 os) :
    Calls Try.prog 38 #[.pointer (some ⟨rb, 0, none⟩), .int .i64 p, .string key] w fun e w' => e = .returned (told (ownT os p key)) ∧ Below w.heap.size w w' := by
  by_cases hq : p < 0 ∨ os.length ≤ p
  · rw [ownT, objT_out hq]
    obtain ⟨A, cap, hc⟩ := h.cell
    have hlt : rb < w.heap.size := World.block_lt_of_cell? w _ hc
    have HP := Lib.hid hq
    clear hq h hn
    go_enter Try.func38, Try.ntmps38
    go_wp2_with (go_at_call 39; refine (ris_out _ rb os.length cap _ p (by rw [World.cell?_alloc_lt _ _ _ hlt]; exact hc) HP.out).mono ?_; rintro e w' ⟨rfl, rfl⟩)
    exact bodyPost_ret (v := told none) (by simp [results, Try.f38, go_sem, told, zeroVal]) rfl ⟨rfl, (Below.refl _ _).alloc (Nat.le_refl _) _⟩
  · obtain ⟨k, o, rfl, ho, hoT⟩ := objT_in hq
    rw [ownT, hoT]
    obtain ⟨g, cap, L, hc, hcs, hO, hgl⟩ := h.way ho
    have hlt : rb < w.heap.size := World.block_lt_of_cell? w _ hc
    have hk1 : k < os.length := (List.getElem?_eq_some_iff.1 ho).1
    have hk2 : (k : Int) < os.length := by omega
    have c4 : w.cell? ⟨g, k * 6 + 4, none⟩ = some L.kv := hcs 4 (by decide)
    have c5 : w.cell? ⟨g, k * 6 + 5, none⟩ = some L.vv := hcs 5 (by decide)
    obtain ⟨A, c, hkv⟩ := own_slice hO.krow
    obtain ⟨A', c', hvv⟩ := own_slice hO.vrow
    rw [hkv] at c4
    rw [hvv] at c5
    have hkn : o.keys.length ≤ 100000 := hn o (List.mem_of_getElem? ho)
    have HSL : Hid (SlR w (.slice A o.keys.length c) (o.keys.map Value.string)) := by rw [← hkv]; exact SlR.of_own hO.krow
    have HVV : Hid (w.ownsRow B 33 3 (.slice A' o.keys.length c') o.keys.length (valsOf o o.keys)) := by rw [← hvv]; exact hO.vrow
    have HAS := Lib.hid hO.has
    clear hcs hO h ho hoT hq hkv hvv hn
    go_enter Try.func38, Try.ntmps38
    go_wp2_with (go_at_call 39; refine (ris_in _ rb os.length cap _ k (by rw [World.cell?_alloc_lt _ _ _ hlt]; exact hc) (by omega) hk2).mono ?_; rintro e w' ⟨rfl, rfl⟩)
    go_loopw [9] (fun i wr => ∃ m : Nat, m ≤ o.keys.length ∧ i = .int .i64 m ∧ key ∉ o.keys.take m ∧ wr = w.alloc (.cells #[.int .i64 0, .int .i64 0, .string ⟨#[]⟩] 33)) (fun i _ => o.keys.length - (intOf i).toNat)
    case atStart => exact ⟨0, by omega, rfl, by simp, rfl⟩
    case round =>
      obtain ⟨m, hm, rfl, htk, rfl⟩ := hrel
      have HT := Lib.hid htk
      clear htk
      by_cases hmt : m < o.keys.length
      · have hx : o.keys[m]? = some o.keys[m] := List.getElem?_eq_getElem hmt
        generalize o.keys[m] = x at hx
        obtain ⟨A2, c2, hAA, hcells⟩ := HSL.out
        injection hAA with hA1 hA2 hA3
        clear hA2 hA3
        subst hA1
        obtain ⟨b1, o1, hA', hb1, hc1⟩ := hcells m (.string x) (by simp [hx])
        subst hA'
        have HX := Lib.hid hx
        clear hcells hx
        by_cases hxy : x = key
        · subst hxy
          have heq : (x.toList == x.toList) = true := by simp
          obtain ⟨gv, capv, hvv, _, hgv⟩ := HVV.out.form (by omega)
          injection hvv with hv1 hv2 hv3
          clear hv2 hv3
          subst hv1
          have hvc : ∀ j, j < 3 → w.cell? ⟨gv, m * 3 + j, none⟩ = (valAt o x).cells[j]? := fun j hj => by
            have h1 := valsOf_at o j HX.out hj
            have hlt : j < (valAt o x).cells.length := by simpa [Vl.cells] using hj
            rw [List.getElem?_eq_getElem hlt] at h1 ⊢
            have := HVV.out.cells (g := gv) rfl (m * 3 + j) _ h1
            have hadd : (⟨gv, 0, none⟩ : Addr).add (m * 3 + j) = ⟨gv, m * 3 + j, none⟩ := by unfold Addr.add; split <;> simp_all
            rw [hadd] at this
            exact this
          have v0 : w.cell? ⟨gv, m * 3, none⟩ = some (.int .i64 (valAt o x).kind) := hvc 0 (by decide)
          have v1 : w.cell? ⟨gv, m * 3 + 1, none⟩ = some (.int .i64 (valAt o x).n) := hvc 1 (by decide)
          have v2 : w.cell? ⟨gv, m * 3 + 2, none⟩ = some (.string (valAt o x).s) := hvc 2 (by decide)
          have HTO : Hid (o.vals x.data.toList = some (valAt o x)) := by
            refine Lib.hid ?_
            obtain ⟨v, hv⟩ := Option.isSome_iff_exists.1 ((HAS.out x).2 (List.mem_of_getElem? HX.out))
            rw [valAt, hv]
            rfl
          generalize valAt o x = vx at v0 v1 v2 HTO
          clear hvc
          go_wp2
          exact bodyPost_ret (v := told (some vx)) (by simp [results, Try.f38, go_sem, told, Vl.val]) rfl ⟨by show _ = Ending.returned (told (o.vals x.data.toList)); rw [HTO.out], by
            have := (Below.refl w.heap.size w).alloc (Nat.le_refl _) (.cells #[.int .i64 vx.kind, .int .i64 vx.n, .string vx.s] 33)
            exact this⟩
        · have hne : (x.toList == key.toList) = false := by
            rw [ByteArray.toList_eq, ByteArray.toList_eq, beq_eq_false_iff_ne]
            exact fun h => hxy (Go.WideShapes.bytes_inj h)
          have HNE := Lib.hid hxy
          clear hxy
          go_wp2
          go_roundw
          case rel =>
            refine ⟨m + 1, by omega, by go_num, ?_, trivial⟩
            rw [List.take_add_one, HX.out]
            simp only [Option.toList_some, List.mem_append, List.mem_singleton, not_or]
            exact ⟨HT.out, fun e => HNE.out e.symm⟩
          case measure => simp [intOf]; omega
      · obtain rfl : m = o.keys.length := by omega
        have hd : decide ((o.keys.length : Int) < (o.keys.length : Int)) = false := by simp
        have HNO : Hid (o.vals key.data.toList = none) := by
          refine Lib.hid ?_
          have := HT.out
          rw [List.take_length] at this
          cases hv : o.vals key.data.toList with
          | none => rfl
          | some v => exact absurd ((HAS.out key).1 (by rw [hv]; rfl)) this
        go_wp2
        exact bodyPost_ret (v := told none) (by simp [results, Try.f38, go_sem, told, zeroVal]) rfl ⟨by show _ = Ending.returned (told (o.vals key.data.toList)); rw [HNO.out], (Below.refl _ _).alloc (Nat.le_refl _) _⟩

end Go.Proofs.Ytbdkbjfaialeoaa
