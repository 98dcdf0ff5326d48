/- The walk of HeapKeeps: true. -/
import Derived.Test.YtbdkbjfaialeoaaCalls
namespace Go.Proofs.Ytbdkbjfaialeoaa
open Go.RowKit Go.Sort

def two4 : List Ob := (first4 ++ [Ob.fresh ⟨0, 0, 0, 0⟩]) ++ [Ob.fresh ⟨0, 4, 0, 0⟩]
def keptO (key : ByteArray) (v : Vl) : List Ob := two4.set 4 ((Ob.fresh ⟨0, 0, 0, 0⟩).put key v)

theorem small4 : Small 2 first4 := by
  intro o ho
  simp [first4] at ho
  rcases ho with rfl | rfl | rfl | rfl
  · simp [Ob.fresh]
  · decide
  · simp [Ob.fresh]
  · simp [Ob.fresh]
theorem small_two : Small 2 two4 := by
  intro o ho
  rcases List.mem_append.1 ho with ho | ho
  · rcases List.mem_append.1 ho with ho | ho
    · exact small4 o ho
    · simp at ho; subst ho; simp [Ob.fresh]
  · simp at ho; subst ho; simp [Ob.fresh]
theorem Small.mono {n m : Nat} {os : List Ob} (h : Small n os) (hm : n ≤ m) : Small m os := fun o ho => Nat.le_trans (h o ho) hm
theorem tied_two : Tied two4 := by
  have h1 := tied_alloc (tied_alloc tied4 ⟨0, 0, 0, 0⟩) ⟨0, 4, 0, 0⟩
  exact h1
theorem kept_put (key : ByteArray) (v : Vl) : putT two4 4 key v = if right v.kind v.n v.s = false ∨ (v.kind = 5 ∧ (v.n < 0 ∨ 6 ≤ v.n)) then (2, two4) else (0, keptO key v) := rfl
theorem tied_kept (key : ByteArray) (v : Vl) : Tied (keptO key v) := by
  have h1 := tied_put tied_two 4 key ⟨0, 0, ⟨#[]⟩⟩
  rw [kept_put, if_neg (by simp [right])] at h1
  intro i o ho
  have h2 : ∀ o' : Ob, (two4.set 4 ((Ob.fresh ⟨0, 0, 0, 0⟩).put key ⟨0, 0, ⟨#[]⟩⟩))[i]? = some o' → -1 ≤ o'.o.proto ∧ o'.o.proto < i := h1 i
  unfold keptO at ho
  by_cases hi : i = 4
  · subst hi
    have e : ∀ x : Ob, (two4.set 4 x)[4]? = some x := fun x => List.getElem?_set_self (by decide)
    rw [e] at ho
    injection ho with ho
    subst ho
    have := h2 _ (e _)
    exact this
  · have e : ∀ x : Ob, (two4.set 4 x)[i]? = two4[i]? := fun x => List.getElem?_set_ne (by omega)
    rw [e] at ho h2
    exact h2 o ho
theorem two_get (other : ByteArray) : getT two4 5 other = none := rfl
theorem kept_own (key : ByteArray) (v : Vl) : ownT (keptO key v) 4 key = some v := by
  show (if key.data.toList = key.data.toList then some v else none) = _
  rw [if_pos rfl]
theorem kept_own5 (key : ByteArray) (v : Vl) : ownT (keptO key v) 5 key = none := rfl
theorem kept_get (key other : ByteArray) (v : Vl) : getT (keptO key v) 5 other = if other.data.toList = key.data.toList then some v else none := by
  have e : chainT (keptO key v) 5 = [5, 4, 0] := rfl
  have e5 : (keptO key v)[5]? = some (Ob.fresh ⟨0, 4, 0, 0⟩) := rfl
  have e4 : (keptO key v)[4]? = some ((Ob.fresh ⟨0, 0, 0, 0⟩).put key v) := rfl
  have e0 : (keptO key v)[0]? = some (Ob.fresh ⟨0, -1, 0, 0⟩) := rfl
  simp only [getT, e, List.findSome?_cons, List.findSome?_nil, e5, e4, e0, Option.bind_some, Ob.fresh, Ob.put]
  by_cases h : other.data.toList = key.data.toList
  · rw [if_pos h]
  · rw [if_neg h]
theorem kept_keys (key : ByteArray) (v : Vl) : keysT (keptO key v) 4 = [key] := rfl

set_option maxRecDepth 100000 in
set_option maxHeartbeats 4000000 in
theorem keeps_main (w : World) (key other : ByteArray) (v : Vl) (hk : key.size ≤ maxLen) (ho : other.size ≤ maxLen) (hr : right v.kind v.n v.s = true) (h5 : (v.kind == 5) = false) :
    Calls Try.prog 4 #[.string key, .string other, .agg #[.int .i64 v.kind, .int .i64 v.n, .string v.s]] w fun e w' => e = .returned (.bool true) ∧ Below w.heap.size w w' := by
  have HR := Lib.hid hr
  have HK := Lib.hid hk
  have HO := Lib.hid ho
  have HSM : Hid (Small 3 (keptO key v)) := by
    refine Lib.hid ?_
    have h1 := small_put small_two 4 key ⟨0, 0, ⟨#[]⟩⟩
    rw [kept_put, if_neg (by simp [right])] at h1
    intro o ho
    unfold keptO at ho
    rcases List.mem_or_eq_of_mem_set ho with ho | rfl
    · exact Nat.le_succ_of_le (small_two o ho)
    · simp [Ob.put, Ob.fresh]
  have HP : Hid (putT two4 4 key v = (0, keptO key v)) := by
    refine Lib.hid ?_
    rw [kept_put, if_neg]
    rintro (x | x)
    · rw [hr] at x; cases x
    · rw [x.1] at h5; cases h5
  clear hr hk ho
  go_enter Try.func4, Try.ntmps4
  go_wp2_with fail
  obtain ⟨w0, hw0⟩ : ∃ w0, w.alloc (.cells #[.int .i64 v.kind, .int .i64 v.n, .string v.s] 33) = w0 := ⟨_, rfl⟩
  have bv : Blk w0 w.heap.size 33 #[.int .i64 v.kind, .int .i64 v.n, .string v.s] := by rw [← hw0]; exact Blk.new _ _ _
  have hB : Below w.heap.size w w0 := by rw [← hw0]; exact (Below.refl _ _).alloc (Nat.le_refl _) _
  rw [hw0]
  clear hw0
  refine (shown_calls w0).mono ?_
  rintro e w1 ⟨rfl, hb1⟩
  replace bv := bv.keep (hb1.block _ bv.lt)
  replace hB := hB.trans (hb1.mono hB.size)
  clear hb1
  go_wp2_with fail
  refine (new_st w w1 hB).mono ?_
  rintro e w2 ⟨rfl, F, hs, hn, hb2⟩
  have hvF := hn _ bv.lt
  replace bv := bv.keep (hb2.block _ bv.lt)
  clear hb2 hn hB
  have HS := Lib.hid hs
  clear hs
  go_wp2_with fail
  refine (alloc_ok w2 w1.heap.size w1.heap.size F first4 ⟨0, 0, 0, 0⟩ HS.out.hp HS.out.hbw (by decide) (.inr ⟨by decide, by decide⟩)).mono ?_
  rintro e w3 ⟨rfl, hg⟩
  rw [show ((first4.length : Nat) : Int) = 4 from rfl]
  obtain ⟨F3, hs3, hn3, hT3⟩ := HS.out.grew hg
  clear hg HS
  have hvF3 := hn3 _ bv.lt hvF
  replace bv := bv.turn hT3 hvF
  have HS := Lib.hid hs3
  clear hs3 hn3 hT3 hvF F
  go_wp2_with fail
  refine (alloc_ok w3 w1.heap.size w1.heap.size F3 _ ⟨0, 4, 0, 0⟩ HS.out.hp HS.out.hbw (by decide) (.inr ⟨by decide, by decide⟩)).mono ?_
  rintro e w4 ⟨rfl, hg⟩
  rw [show (((first4 ++ [Ob.fresh ⟨0, 0, 0, 0⟩]).length : Nat) : Int) = 5 from rfl]
  obtain ⟨F4, hs4, hn4, hT4⟩ := HS.out.grew hg
  clear hg HS
  have hvF4 := hn4 _ bv.lt hvF3
  replace bv := bv.turn hT4 hvF3
  have HS : Hid (St w w4 w1.heap.size F4 two4) := Lib.hid hs4
  clear hs4 hn4 hT4 hvF3 F3
  go_wp2_with fail
  refine (hget_calls w4 w1.heap.size w1.heap.size F4 two4 5 other HS.out.hp tied_two HO.out).mono ?_
  rintro e w5 ⟨rfl, hb5⟩
  rw [two_get, told_none]
  replace HS := Lib.hid (HS.out.below hb5)
  replace bv := bv.keep (hb5.block _ bv.lt)
  clear hb5
  have c0 := bv.cell 0
  have c1 := bv.cell 1
  have c2 := bv.cell 2
  have hlt := bv.lt
  go_wp2_with fail
  obtain ⟨w6, hw6⟩ : ∃ w6, w5.alloc (.cells #[.int .i64 0, .int .i64 0, .string ⟨#[]⟩] 33) = w6 := ⟨_, rfl⟩
  have bw : Blk w6 w5.heap.size 33 #[.int .i64 0, .int .i64 0, .string ⟨#[]⟩] := by rw [← hw6]; exact Blk.new _ _ _
  have hb6 : Below w5.heap.size w5 w6 := by rw [← hw6]; exact (Below.refl _ _).alloc (Nat.le_refl _) _
  have hwF : ¬ F4 w5.heap.size := fun h => Nat.lt_irrefl _ (HS.out.hp.foot _ h).2
  rw [hw6]
  clear hw6 c0 c1 c2
  replace HS := Lib.hid (HS.out.below hb6)
  replace bv := bv.keep (hb6.block _ bv.lt)
  clear hb6 hlt
  refine (hput_calls w6 w1.heap.size w1.heap.size F4 two4 4 key v HS.out.hp HS.out.hbw HK.out (small_two.mono (by decide))).mono ?_
  rintro e w7 ⟨rfl, hg⟩
  rw [HP.out] at hg ⊢
  obtain ⟨F7, hs7, hn7, hT7⟩ := HS.out.grew hg
  clear hg HS
  have hvF7 := hn7 _ bv.lt hvF4
  have hwF7 := hn7 _ bw.lt hwF
  replace bv := bv.turn hT7 hvF4
  replace bw := bw.turn hT7 hwF
  have HS := Lib.hid hs7
  clear hs7 hn7 hT7 hvF4 hwF F4
  have c0 := bv.cell 0
  have c1 := bv.cell 1
  have c2 := bv.cell 2
  have hlt := bv.lt
  go_wp2_with fail
  refine (rright_calls w7 v.kind v.n v.s).mono ?_
  rintro e w8 ⟨rfl, hb8⟩
  rw [HR.out]
  replace HS := Lib.hid (HS.out.below hb8)
  replace bv := bv.keep (hb8.block _ bv.lt)
  replace bw := bw.keep (hb8.block _ bw.lt)
  clear hb8 c0 c1 c2 hlt
  have c0 := bv.cell 0
  have c1 := bv.cell 1
  have c2 := bv.cell 2
  go_wp2_with fail
  clear h5 c0 c1 c2
  refine (own_calls w8 w1.heap.size w1.heap.size F7 _ 4 key HS.out.hp HK.out).mono ?_
  rintro e w9 ⟨rfl, hb9⟩
  rw [kept_own, told_some]
  replace HS := Lib.hid (HS.out.below hb9)
  replace bv := bv.keep (hb9.block _ bv.lt)
  replace bw := bw.keep (hb9.block _ bw.lt)
  clear hb9
  go_wp2_with fail
  obtain ⟨wA, hwA⟩ : ∃ wA, w9.alloc (.cells #[.int .i64 v.kind, .int .i64 v.n, .string v.s] 33) = wA := ⟨_, rfl⟩
  have ba : Blk wA w9.heap.size 33 #[.int .i64 v.kind, .int .i64 v.n, .string v.s] := by rw [← hwA]; exact Blk.new _ _ _
  have hbA : Below w9.heap.size w9 wA := by rw [← hwA]; exact (Below.refl _ _).alloc (Nat.le_refl _) _
  rw [hwA]
  clear hwA
  replace HS := Lib.hid (HS.out.below hbA)
  replace bv := bv.keep (hbA.block _ bv.lt)
  replace bw := bw.keep (hbA.block _ bw.lt)
  clear hbA
  refine (hget_calls wA w1.heap.size w1.heap.size F7 _ 5 key HS.out.hp (tied_kept key v) HK.out).mono ?_
  rintro e wB ⟨rfl, hbB⟩
  rw [kept_get, if_pos rfl, told_some]
  replace HS := Lib.hid (HS.out.below hbB)
  replace bv := bv.keep (hbB.block _ bv.lt)
  replace bw := bw.keep (hbB.block _ bw.lt)
  replace ba := ba.keep (hbB.block _ ba.lt)
  clear hbB
  go_wp2_with fail
  obtain ⟨wC, hwC⟩ : ∃ wC, wB.alloc (.cells #[.int .i64 v.kind, .int .i64 v.n, .string v.s] 33) = wC := ⟨_, rfl⟩
  have bb : Blk wC wB.heap.size 33 #[.int .i64 v.kind, .int .i64 v.n, .string v.s] := by rw [← hwC]; exact Blk.new _ _ _
  have hbC : Below wB.heap.size wB wC := by rw [← hwC]; exact (Below.refl _ _).alloc (Nat.le_refl _) _
  rw [hwC]
  clear hwC
  replace HS := Lib.hid (HS.out.below hbC)
  replace bv := bv.keep (hbC.block _ bv.lt)
  replace bw := bw.keep (hbC.block _ bw.lt)
  replace ba := ba.keep (hbC.block _ ba.lt)
  clear hbC
  refine (own_calls wC w1.heap.size w1.heap.size F7 _ 5 key HS.out.hp HK.out).mono ?_
  rintro e wD ⟨rfl, hbD⟩
  rw [kept_own5, told_none]
  replace HS := Lib.hid (HS.out.below hbD)
  replace bv := bv.keep (hbD.block _ bv.lt)
  replace bw := bw.keep (hbD.block _ bw.lt)
  replace ba := ba.keep (hbD.block _ ba.lt)
  replace bb := bb.keep (hbD.block _ bb.lt)
  clear hbD
  go_wp2_with fail
  obtain ⟨wE, hwE⟩ : ∃ wE, wD.alloc (.cells #[.int .i64 0, .int .i64 0, .string ⟨#[]⟩] 33) = wE := ⟨_, rfl⟩
  have hbE : Below wD.heap.size wD wE := by rw [← hwE]; exact (Below.refl _ _).alloc (Nat.le_refl _) _
  rw [hwE]
  clear hwE
  replace HS := Lib.hid (HS.out.below hbE)
  replace bv := bv.keep (hbE.block _ bv.lt)
  replace bw := bw.keep (hbE.block _ bw.lt)
  replace ba := ba.keep (hbE.block _ ba.lt)
  replace bb := bb.keep (hbE.block _ bb.lt)
  clear hbE
  refine (hget_calls wE w1.heap.size w1.heap.size F7 _ 5 other HS.out.hp (tied_kept key v) HO.out).mono ?_
  rintro e wG ⟨rfl, hbG⟩
  rw [kept_get]
  replace HS := Lib.hid (HS.out.below hbG)
  replace bv := bv.keep (hbG.block _ bv.lt)
  replace bw := bw.keep (hbG.block _ bw.lt)
  replace ba := ba.keep (hbG.block _ ba.lt)
  replace bb := bb.keep (hbG.block _ bb.lt)
  clear hbG
  have c0 := bv.cell 0
  have c1 := bv.cell 1
  have c2 := bv.cell 2
  have d0 := bw.cell 0
  have d1 := bw.cell 1
  have d2 := bw.cell 2
  have a0 := ba.cell 0
  have a1 := ba.cell 1
  have a2 := ba.cell 2
  have b0 := bb.cell 0
  have b1 := bb.cell 1
  have b2 := bb.cell 2
  have l1 := bv.lt
  have l2 := bw.lt
  have l3 := ba.lt
  have l4 := bb.lt
  by_cases heq : other.data.toList = key.data.toList
  · rw [if_pos heq, told_some]
    have hq : (other.toList == key.toList) = true := by rw [ByteArray.toList_eq, ByteArray.toList_eq, heq]; simp
    clear heq bv bw ba bb hvF7 hwF7
    go_wp2_with fail
    replace HS := Lib.hid (HS.out.below ((Below.refl _ _).alloc (Nat.le_refl _) (.cells #[.int .i64 v.kind, .int .i64 v.n, .string v.s] 33)))
    clear hq c0 c1 c2 d0 d1 d2 a0 a1 a2 b0 b1 b2 l1 l2 l3 l4
    generalize wG.alloc (.cells #[.int .i64 v.kind, .int .i64 v.n, .string v.s] 33) = wH at HS ⊢
    refine (keys_calls wH w1.heap.size w1.heap.size F7 _ 4 HS.out.hp (HSM.out.mono (by decide))).mono ?_
    rintro e wI ⟨u, rfl, hu, hbI⟩
    rw [kept_keys] at hu
    replace HS := Lib.hid (HS.out.below hbI)
    have hsl : Hid (SlR (wI.alloc (.cells #[.string key] 9)) u ([key].map Value.string)) := (SlR.of_own hu).below ((Below.refl _ _).alloc (Nat.le_refl _) _)
    clear hu hbI
    go_wp2_with fail
    refine (same_calls _ u (.slice (some ⟨wI.heap.size, 0, none⟩) 1 1) [key] [key] hsl.out (SlR.block (xs := [.string key]) (e := 9) (Blk.new _ _ _)) (by simp [maxLen])).mono ?_
    rintro e wJ ⟨rfl, hbJ⟩
    rw [show sameS [key] [key] = true from by simp [sameS]]
    replace HS := Lib.hid (HS.out.below (((Below.refl _ _).alloc (Nat.le_refl _) _).trans (hbJ.mono (by simp))))
    clear hbJ
    go_wp2_with fail
    go_ret
    exact ⟨rfl, HS.out.bel⟩
  · rw [if_neg heq, told_none]
    have hq : (other.toList == key.toList) = false := by rw [ByteArray.toList_eq, ByteArray.toList_eq]; simpa using heq
    clear heq bv bw ba bb hvF7 hwF7
    go_wp2_with fail
    replace HS := Lib.hid (HS.out.below ((Below.refl _ _).alloc (Nat.le_refl _) (.cells #[.int .i64 0, .int .i64 0, .string ⟨#[]⟩] 33)))
    clear hq c0 c1 c2 d0 d1 d2 a0 a1 a2 b0 b1 b2 l1 l2 l3 l4
    generalize wG.alloc (.cells #[.int .i64 0, .int .i64 0, .string ⟨#[]⟩] 33) = wH at HS ⊢
    refine (keys_calls wH w1.heap.size w1.heap.size F7 _ 4 HS.out.hp (HSM.out.mono (by decide))).mono ?_
    rintro e wI ⟨u, rfl, hu, hbI⟩
    rw [kept_keys] at hu
    replace HS := Lib.hid (HS.out.below hbI)
    have hsl : Hid (SlR (wI.alloc (.cells #[.string key] 9)) u ([key].map Value.string)) := (SlR.of_own hu).below ((Below.refl _ _).alloc (Nat.le_refl _) _)
    clear hu hbI
    go_wp2_with fail
    refine (same_calls _ u (.slice (some ⟨wI.heap.size, 0, none⟩) 1 1) [key] [key] hsl.out (SlR.block (xs := [.string key]) (e := 9) (Blk.new _ _ _)) (by simp [maxLen])).mono ?_
    rintro e wJ ⟨rfl, hbJ⟩
    rw [show sameS [key] [key] = true from by simp [sameS]]
    replace HS := Lib.hid (HS.out.below (((Below.refl _ _).alloc (Nat.le_refl _) _).trans (hbJ.mono (by simp))))
    clear hbJ
    go_wp2_with fail
    go_ret
    exact ⟨rfl, HS.out.bel⟩

set_option maxRecDepth 100000 in
set_option maxHeartbeats 4000000 in
theorem keeps_ref (w : World) (key other : ByteArray) (v : Vl) (hk : key.size ≤ maxLen) (ho : other.size ≤ maxLen) (hr : right v.kind v.n v.s = true) (h5 : (v.kind == 5) = true) (hn0 : decide (v.n < 0) = false) (hn1 : decide (5 < v.n) = false) :
    Calls Try.prog 4 #[.string key, .string other, .agg #[.int .i64 v.kind, .int .i64 v.n, .string v.s]] w fun e w' => e = .returned (.bool true) ∧ Below w.heap.size w w' := by
  have HR := Lib.hid hr
  have HK := Lib.hid hk
  have HO := Lib.hid ho
  have HSM : Hid (Small 3 (keptO key v)) := by
    refine Lib.hid ?_
    have h1 := small_put small_two 4 key ⟨0, 0, ⟨#[]⟩⟩
    rw [kept_put, if_neg (by simp [right])] at h1
    intro o ho
    unfold keptO at ho
    rcases List.mem_or_eq_of_mem_set ho with ho | rfl
    · exact Nat.le_succ_of_le (small_two o ho)
    · simp [Ob.put, Ob.fresh]
  have HP : Hid (putT two4 4 key v = (0, keptO key v)) := by
    refine Lib.hid ?_
    rw [kept_put, if_neg]
    rintro (x | x)
    · rw [hr] at x; cases x
    · have := x.2
      simp at hn0 hn1
      omega
  clear hr hk ho
  go_enter Try.func4, Try.ntmps4
  go_wp2_with fail
  obtain ⟨w0, hw0⟩ : ∃ w0, w.alloc (.cells #[.int .i64 v.kind, .int .i64 v.n, .string v.s] 33) = w0 := ⟨_, rfl⟩
  have bv : Blk w0 w.heap.size 33 #[.int .i64 v.kind, .int .i64 v.n, .string v.s] := by rw [← hw0]; exact Blk.new _ _ _
  have hB : Below w.heap.size w w0 := by rw [← hw0]; exact (Below.refl _ _).alloc (Nat.le_refl _) _
  rw [hw0]
  clear hw0
  refine (shown_calls w0).mono ?_
  rintro e w1 ⟨rfl, hb1⟩
  replace bv := bv.keep (hb1.block _ bv.lt)
  replace hB := hB.trans (hb1.mono hB.size)
  clear hb1
  go_wp2_with fail
  refine (new_st w w1 hB).mono ?_
  rintro e w2 ⟨rfl, F, hs, hn, hb2⟩
  have hvF := hn _ bv.lt
  replace bv := bv.keep (hb2.block _ bv.lt)
  clear hb2 hn hB
  have HS := Lib.hid hs
  clear hs
  go_wp2_with fail
  refine (alloc_ok w2 w1.heap.size w1.heap.size F first4 ⟨0, 0, 0, 0⟩ HS.out.hp HS.out.hbw (by decide) (.inr ⟨by decide, by decide⟩)).mono ?_
  rintro e w3 ⟨rfl, hg⟩
  rw [show ((first4.length : Nat) : Int) = 4 from rfl]
  obtain ⟨F3, hs3, hn3, hT3⟩ := HS.out.grew hg
  clear hg HS
  have hvF3 := hn3 _ bv.lt hvF
  replace bv := bv.turn hT3 hvF
  have HS := Lib.hid hs3
  clear hs3 hn3 hT3 hvF F
  go_wp2_with fail
  refine (alloc_ok w3 w1.heap.size w1.heap.size F3 _ ⟨0, 4, 0, 0⟩ HS.out.hp HS.out.hbw (by decide) (.inr ⟨by decide, by decide⟩)).mono ?_
  rintro e w4 ⟨rfl, hg⟩
  rw [show (((first4 ++ [Ob.fresh ⟨0, 0, 0, 0⟩]).length : Nat) : Int) = 5 from rfl]
  obtain ⟨F4, hs4, hn4, hT4⟩ := HS.out.grew hg
  clear hg HS
  have hvF4 := hn4 _ bv.lt hvF3
  replace bv := bv.turn hT4 hvF3
  have HS : Hid (St w w4 w1.heap.size F4 two4) := Lib.hid hs4
  clear hs4 hn4 hT4 hvF3 F3
  go_wp2_with fail
  refine (hget_calls w4 w1.heap.size w1.heap.size F4 two4 5 other HS.out.hp tied_two HO.out).mono ?_
  rintro e w5 ⟨rfl, hb5⟩
  rw [two_get, told_none]
  replace HS := Lib.hid (HS.out.below hb5)
  replace bv := bv.keep (hb5.block _ bv.lt)
  clear hb5
  have c0 := bv.cell 0
  have c1 := bv.cell 1
  have c2 := bv.cell 2
  have hlt := bv.lt
  go_wp2_with fail
  obtain ⟨w6, hw6⟩ : ∃ w6, w5.alloc (.cells #[.int .i64 0, .int .i64 0, .string ⟨#[]⟩] 33) = w6 := ⟨_, rfl⟩
  have bw : Blk w6 w5.heap.size 33 #[.int .i64 0, .int .i64 0, .string ⟨#[]⟩] := by rw [← hw6]; exact Blk.new _ _ _
  have hb6 : Below w5.heap.size w5 w6 := by rw [← hw6]; exact (Below.refl _ _).alloc (Nat.le_refl _) _
  have hwF : ¬ F4 w5.heap.size := fun h => Nat.lt_irrefl _ (HS.out.hp.foot _ h).2
  rw [hw6]
  clear hw6 c0 c1 c2
  replace HS := Lib.hid (HS.out.below hb6)
  replace bv := bv.keep (hb6.block _ bv.lt)
  clear hb6 hlt
  refine (hput_calls w6 w1.heap.size w1.heap.size F4 two4 4 key v HS.out.hp HS.out.hbw HK.out (small_two.mono (by decide))).mono ?_
  rintro e w7 ⟨rfl, hg⟩
  rw [HP.out] at hg ⊢
  obtain ⟨F7, hs7, hn7, hT7⟩ := HS.out.grew hg
  clear hg HS
  have hvF7 := hn7 _ bv.lt hvF4
  have hwF7 := hn7 _ bw.lt hwF
  replace bv := bv.turn hT7 hvF4
  replace bw := bw.turn hT7 hwF
  have HS := Lib.hid hs7
  clear hs7 hn7 hT7 hvF4 hwF F4
  have c0 := bv.cell 0
  have c1 := bv.cell 1
  have c2 := bv.cell 2
  have hlt := bv.lt
  go_wp2_with fail
  refine (rright_calls w7 v.kind v.n v.s).mono ?_
  rintro e w8 ⟨rfl, hb8⟩
  rw [HR.out]
  replace HS := Lib.hid (HS.out.below hb8)
  replace bv := bv.keep (hb8.block _ bv.lt)
  replace bw := bw.keep (hb8.block _ bw.lt)
  clear hb8 c0 c1 c2 hlt
  have c0 := bv.cell 0
  have c1 := bv.cell 1
  have c2 := bv.cell 2
  go_wp2_with fail
  clear h5 c0 c1 c2
  refine (own_calls w8 w1.heap.size w1.heap.size F7 _ 4 key HS.out.hp HK.out).mono ?_
  rintro e w9 ⟨rfl, hb9⟩
  rw [kept_own, told_some]
  replace HS := Lib.hid (HS.out.below hb9)
  replace bv := bv.keep (hb9.block _ bv.lt)
  replace bw := bw.keep (hb9.block _ bw.lt)
  clear hb9
  go_wp2_with fail
  obtain ⟨wA, hwA⟩ : ∃ wA, w9.alloc (.cells #[.int .i64 v.kind, .int .i64 v.n, .string v.s] 33) = wA := ⟨_, rfl⟩
  have ba : Blk wA w9.heap.size 33 #[.int .i64 v.kind, .int .i64 v.n, .string v.s] := by rw [← hwA]; exact Blk.new _ _ _
  have hbA : Below w9.heap.size w9 wA := by rw [← hwA]; exact (Below.refl _ _).alloc (Nat.le_refl _) _
  rw [hwA]
  clear hwA
  replace HS := Lib.hid (HS.out.below hbA)
  replace bv := bv.keep (hbA.block _ bv.lt)
  replace bw := bw.keep (hbA.block _ bw.lt)
  clear hbA
  refine (hget_calls wA w1.heap.size w1.heap.size F7 _ 5 key HS.out.hp (tied_kept key v) HK.out).mono ?_
  rintro e wB ⟨rfl, hbB⟩
  rw [kept_get, if_pos rfl, told_some]
  replace HS := Lib.hid (HS.out.below hbB)
  replace bv := bv.keep (hbB.block _ bv.lt)
  replace bw := bw.keep (hbB.block _ bw.lt)
  replace ba := ba.keep (hbB.block _ ba.lt)
  clear hbB
  go_wp2_with fail
  obtain ⟨wC, hwC⟩ : ∃ wC, wB.alloc (.cells #[.int .i64 v.kind, .int .i64 v.n, .string v.s] 33) = wC := ⟨_, rfl⟩
  have bb : Blk wC wB.heap.size 33 #[.int .i64 v.kind, .int .i64 v.n, .string v.s] := by rw [← hwC]; exact Blk.new _ _ _
  have hbC : Below wB.heap.size wB wC := by rw [← hwC]; exact (Below.refl _ _).alloc (Nat.le_refl _) _
  rw [hwC]
  clear hwC
  replace HS := Lib.hid (HS.out.below hbC)
  replace bv := bv.keep (hbC.block _ bv.lt)
  replace bw := bw.keep (hbC.block _ bw.lt)
  replace ba := ba.keep (hbC.block _ ba.lt)
  clear hbC
  refine (own_calls wC w1.heap.size w1.heap.size F7 _ 5 key HS.out.hp HK.out).mono ?_
  rintro e wD ⟨rfl, hbD⟩
  rw [kept_own5, told_none]
  replace HS := Lib.hid (HS.out.below hbD)
  replace bv := bv.keep (hbD.block _ bv.lt)
  replace bw := bw.keep (hbD.block _ bw.lt)
  replace ba := ba.keep (hbD.block _ ba.lt)
  replace bb := bb.keep (hbD.block _ bb.lt)
  clear hbD
  go_wp2_with fail
  obtain ⟨wE, hwE⟩ : ∃ wE, wD.alloc (.cells #[.int .i64 0, .int .i64 0, .string ⟨#[]⟩] 33) = wE := ⟨_, rfl⟩
  have hbE : Below wD.heap.size wD wE := by rw [← hwE]; exact (Below.refl _ _).alloc (Nat.le_refl _) _
  rw [hwE]
  clear hwE
  replace HS := Lib.hid (HS.out.below hbE)
  replace bv := bv.keep (hbE.block _ bv.lt)
  replace bw := bw.keep (hbE.block _ bw.lt)
  replace ba := ba.keep (hbE.block _ ba.lt)
  replace bb := bb.keep (hbE.block _ bb.lt)
  clear hbE
  refine (hget_calls wE w1.heap.size w1.heap.size F7 _ 5 other HS.out.hp (tied_kept key v) HO.out).mono ?_
  rintro e wG ⟨rfl, hbG⟩
  rw [kept_get]
  replace HS := Lib.hid (HS.out.below hbG)
  replace bv := bv.keep (hbG.block _ bv.lt)
  replace bw := bw.keep (hbG.block _ bw.lt)
  replace ba := ba.keep (hbG.block _ ba.lt)
  replace bb := bb.keep (hbG.block _ bb.lt)
  clear hbG
  have c0 := bv.cell 0
  have c1 := bv.cell 1
  have c2 := bv.cell 2
  have d0 := bw.cell 0
  have d1 := bw.cell 1
  have d2 := bw.cell 2
  have a0 := ba.cell 0
  have a1 := ba.cell 1
  have a2 := ba.cell 2
  have b0 := bb.cell 0
  have b1 := bb.cell 1
  have b2 := bb.cell 2
  have l1 := bv.lt
  have l2 := bw.lt
  have l3 := ba.lt
  have l4 := bb.lt
  by_cases heq : other.data.toList = key.data.toList
  · rw [if_pos heq, told_some]
    have hq : (other.toList == key.toList) = true := by rw [ByteArray.toList_eq, ByteArray.toList_eq, heq]; simp
    clear heq bv bw ba bb hvF7 hwF7
    go_wp2_with fail
    replace HS := Lib.hid (HS.out.below ((Below.refl _ _).alloc (Nat.le_refl _) (.cells #[.int .i64 v.kind, .int .i64 v.n, .string v.s] 33)))
    clear hq c0 c1 c2 d0 d1 d2 a0 a1 a2 b0 b1 b2 l1 l2 l3 l4
    generalize wG.alloc (.cells #[.int .i64 v.kind, .int .i64 v.n, .string v.s] 33) = wH at HS ⊢
    refine (keys_calls wH w1.heap.size w1.heap.size F7 _ 4 HS.out.hp (HSM.out.mono (by decide))).mono ?_
    rintro e wI ⟨u, rfl, hu, hbI⟩
    rw [kept_keys] at hu
    replace HS := Lib.hid (HS.out.below hbI)
    have hsl : Hid (SlR (wI.alloc (.cells #[.string key] 9)) u ([key].map Value.string)) := (SlR.of_own hu).below ((Below.refl _ _).alloc (Nat.le_refl _) _)
    clear hu hbI
    go_wp2_with fail
    refine (same_calls _ u (.slice (some ⟨wI.heap.size, 0, none⟩) 1 1) [key] [key] hsl.out (SlR.block (xs := [.string key]) (e := 9) (Blk.new _ _ _)) (by simp [maxLen])).mono ?_
    rintro e wJ ⟨rfl, hbJ⟩
    rw [show sameS [key] [key] = true from by simp [sameS]]
    replace HS := Lib.hid (HS.out.below (((Below.refl _ _).alloc (Nat.le_refl _) _).trans (hbJ.mono (by simp))))
    clear hbJ
    go_wp2_with fail
    go_ret
    exact ⟨rfl, HS.out.bel⟩
  · rw [if_neg heq, told_none]
    have hq : (other.toList == key.toList) = false := by rw [ByteArray.toList_eq, ByteArray.toList_eq]; simpa using heq
    clear heq bv bw ba bb hvF7 hwF7
    go_wp2_with fail
    replace HS := Lib.hid (HS.out.below ((Below.refl _ _).alloc (Nat.le_refl _) (.cells #[.int .i64 0, .int .i64 0, .string ⟨#[]⟩] 33)))
    clear hq c0 c1 c2 d0 d1 d2 a0 a1 a2 b0 b1 b2 l1 l2 l3 l4
    generalize wG.alloc (.cells #[.int .i64 0, .int .i64 0, .string ⟨#[]⟩] 33) = wH at HS ⊢
    refine (keys_calls wH w1.heap.size w1.heap.size F7 _ 4 HS.out.hp (HSM.out.mono (by decide))).mono ?_
    rintro e wI ⟨u, rfl, hu, hbI⟩
    rw [kept_keys] at hu
    replace HS := Lib.hid (HS.out.below hbI)
    have hsl : Hid (SlR (wI.alloc (.cells #[.string key] 9)) u ([key].map Value.string)) := (SlR.of_own hu).below ((Below.refl _ _).alloc (Nat.le_refl _) _)
    clear hu hbI
    go_wp2_with fail
    refine (same_calls _ u (.slice (some ⟨wI.heap.size, 0, none⟩) 1 1) [key] [key] hsl.out (SlR.block (xs := [.string key]) (e := 9) (Blk.new _ _ _)) (by simp [maxLen])).mono ?_
    rintro e wJ ⟨rfl, hbJ⟩
    rw [show sameS [key] [key] = true from by simp [sameS]]
    replace HS := Lib.hid (HS.out.below (((Below.refl _ _).alloc (Nat.le_refl _) _).trans (hbJ.mono (by simp))))
    clear hbJ
    go_wp2_with fail
    go_ret
    exact ⟨rfl, HS.out.bel⟩

set_option maxRecDepth 100000 in
set_option maxHeartbeats 4000000 in
theorem keeps_wrong (w : World) (key other : ByteArray) (v : Vl) (hk : key.size ≤ maxLen) (ho : other.size ≤ maxLen) (hr : right v.kind v.n v.s = false)  :
    Calls Try.prog 4 #[.string key, .string other, .agg #[.int .i64 v.kind, .int .i64 v.n, .string v.s]] w fun e w' => e = .returned (.bool true) ∧ Below w.heap.size w w' := by
  have HR := Lib.hid hr
  have HK := Lib.hid hk
  have HO := Lib.hid ho
  have HP : Hid (putT two4 4 key v = (2, two4)) := by
    refine Lib.hid ?_
    rw [kept_put, if_pos]
    exact .inl hr
  clear hr hk ho
  go_enter Try.func4, Try.ntmps4
  go_wp2_with fail
  obtain ⟨w0, hw0⟩ : ∃ w0, w.alloc (.cells #[.int .i64 v.kind, .int .i64 v.n, .string v.s] 33) = w0 := ⟨_, rfl⟩
  have bv : Blk w0 w.heap.size 33 #[.int .i64 v.kind, .int .i64 v.n, .string v.s] := by rw [← hw0]; exact Blk.new _ _ _
  have hB : Below w.heap.size w w0 := by rw [← hw0]; exact (Below.refl _ _).alloc (Nat.le_refl _) _
  rw [hw0]
  clear hw0
  refine (shown_calls w0).mono ?_
  rintro e w1 ⟨rfl, hb1⟩
  replace bv := bv.keep (hb1.block _ bv.lt)
  replace hB := hB.trans (hb1.mono hB.size)
  clear hb1
  go_wp2_with fail
  refine (new_st w w1 hB).mono ?_
  rintro e w2 ⟨rfl, F, hs, hn, hb2⟩
  have hvF := hn _ bv.lt
  replace bv := bv.keep (hb2.block _ bv.lt)
  clear hb2 hn hB
  have HS := Lib.hid hs
  clear hs
  go_wp2_with fail
  refine (alloc_ok w2 w1.heap.size w1.heap.size F first4 ⟨0, 0, 0, 0⟩ HS.out.hp HS.out.hbw (by decide) (.inr ⟨by decide, by decide⟩)).mono ?_
  rintro e w3 ⟨rfl, hg⟩
  rw [show ((first4.length : Nat) : Int) = 4 from rfl]
  obtain ⟨F3, hs3, hn3, hT3⟩ := HS.out.grew hg
  clear hg HS
  have hvF3 := hn3 _ bv.lt hvF
  replace bv := bv.turn hT3 hvF
  have HS := Lib.hid hs3
  clear hs3 hn3 hT3 hvF F
  go_wp2_with fail
  refine (alloc_ok w3 w1.heap.size w1.heap.size F3 _ ⟨0, 4, 0, 0⟩ HS.out.hp HS.out.hbw (by decide) (.inr ⟨by decide, by decide⟩)).mono ?_
  rintro e w4 ⟨rfl, hg⟩
  rw [show (((first4 ++ [Ob.fresh ⟨0, 0, 0, 0⟩]).length : Nat) : Int) = 5 from rfl]
  obtain ⟨F4, hs4, hn4, hT4⟩ := HS.out.grew hg
  clear hg HS
  have hvF4 := hn4 _ bv.lt hvF3
  replace bv := bv.turn hT4 hvF3
  have HS : Hid (St w w4 w1.heap.size F4 two4) := Lib.hid hs4
  clear hs4 hn4 hT4 hvF3 F3
  go_wp2_with fail
  refine (hget_calls w4 w1.heap.size w1.heap.size F4 two4 5 other HS.out.hp tied_two HO.out).mono ?_
  rintro e w5 ⟨rfl, hb5⟩
  rw [two_get, told_none]
  replace HS := Lib.hid (HS.out.below hb5)
  replace bv := bv.keep (hb5.block _ bv.lt)
  clear hb5
  have c0 := bv.cell 0
  have c1 := bv.cell 1
  have c2 := bv.cell 2
  have hlt := bv.lt
  go_wp2_with fail
  obtain ⟨w6, hw6⟩ : ∃ w6, w5.alloc (.cells #[.int .i64 0, .int .i64 0, .string ⟨#[]⟩] 33) = w6 := ⟨_, rfl⟩
  have bw : Blk w6 w5.heap.size 33 #[.int .i64 0, .int .i64 0, .string ⟨#[]⟩] := by rw [← hw6]; exact Blk.new _ _ _
  have hb6 : Below w5.heap.size w5 w6 := by rw [← hw6]; exact (Below.refl _ _).alloc (Nat.le_refl _) _
  have hwF : ¬ F4 w5.heap.size := fun h => Nat.lt_irrefl _ (HS.out.hp.foot _ h).2
  rw [hw6]
  clear hw6 c0 c1 c2
  replace HS := Lib.hid (HS.out.below hb6)
  replace bv := bv.keep (hb6.block _ bv.lt)
  clear hb6 hlt
  refine (hput_calls w6 w1.heap.size w1.heap.size F4 two4 4 key v HS.out.hp HS.out.hbw HK.out (small_two.mono (by decide))).mono ?_
  rintro e w7 ⟨rfl, hg⟩
  rw [HP.out] at hg ⊢
  obtain ⟨F7, hs7, hn7, hT7⟩ := HS.out.grew hg
  clear hg HS
  have hvF7 := hn7 _ bv.lt hvF4
  have hwF7 := hn7 _ bw.lt hwF
  replace bv := bv.turn hT7 hvF4
  replace bw := bw.turn hT7 hwF
  have HS := Lib.hid hs7
  clear hs7 hn7 hT7 hvF4 hwF F4
  have c0 := bv.cell 0
  have c1 := bv.cell 1
  have c2 := bv.cell 2
  have hlt := bv.lt
  go_wp2_with fail
  refine (rright_calls w7 v.kind v.n v.s).mono ?_
  rintro e w8 ⟨rfl, hb8⟩
  rw [HR.out]
  replace HS := Lib.hid (HS.out.below hb8)
  replace bv := bv.keep (hb8.block _ bv.lt)
  clear hb8 c0 c1 c2 hlt bw hwF7
  have c0 := bv.cell 0
  have c1 := bv.cell 1
  have c2 := bv.cell 2
  clear hvF7 bv
  go_wp2_with fail
  refine (keys_calls w8 w1.heap.size w1.heap.size F7 _ 4 HS.out.hp (small_two.mono (by decide))).mono ?_
  rintro e wI ⟨u, rfl, hu, hbI⟩
  rw [show keysT two4 4 = [] from rfl] at hu
  obtain ⟨A, c, rfl⟩ := own_slice hu
  replace HS := Lib.hid (HS.out.below hbI)
  clear hu hbI c0 c1 c2
  go_wp2_with fail
  go_ret
  exact ⟨rfl, HS.out.bel⟩

set_option maxRecDepth 100000 in
set_option maxHeartbeats 4000000 in
theorem keeps_low (w : World) (key other : ByteArray) (v : Vl) (hk : key.size ≤ maxLen) (ho : other.size ≤ maxLen) (hr : right v.kind v.n v.s = true) (h5 : (v.kind == 5) = true) (hn0 : decide (v.n < 0) = true) :
    Calls Try.prog 4 #[.string key, .string other, .agg #[.int .i64 v.kind, .int .i64 v.n, .string v.s]] w fun e w' => e = .returned (.bool true) ∧ Below w.heap.size w w' := by
  have HR := Lib.hid hr
  have HK := Lib.hid hk
  have HO := Lib.hid ho
  have HP : Hid (putT two4 4 key v = (2, two4)) := by
    refine Lib.hid ?_
    rw [kept_put, if_pos]
    exact .inr ⟨by simpa using h5, .inl (by simpa using hn0)⟩
  clear hr hk ho
  go_enter Try.func4, Try.ntmps4
  go_wp2_with fail
  obtain ⟨w0, hw0⟩ : ∃ w0, w.alloc (.cells #[.int .i64 v.kind, .int .i64 v.n, .string v.s] 33) = w0 := ⟨_, rfl⟩
  have bv : Blk w0 w.heap.size 33 #[.int .i64 v.kind, .int .i64 v.n, .string v.s] := by rw [← hw0]; exact Blk.new _ _ _
  have hB : Below w.heap.size w w0 := by rw [← hw0]; exact (Below.refl _ _).alloc (Nat.le_refl _) _
  rw [hw0]
  clear hw0
  refine (shown_calls w0).mono ?_
  rintro e w1 ⟨rfl, hb1⟩
  replace bv := bv.keep (hb1.block _ bv.lt)
  replace hB := hB.trans (hb1.mono hB.size)
  clear hb1
  go_wp2_with fail
  refine (new_st w w1 hB).mono ?_
  rintro e w2 ⟨rfl, F, hs, hn, hb2⟩
  have hvF := hn _ bv.lt
  replace bv := bv.keep (hb2.block _ bv.lt)
  clear hb2 hn hB
  have HS := Lib.hid hs
  clear hs
  go_wp2_with fail
  refine (alloc_ok w2 w1.heap.size w1.heap.size F first4 ⟨0, 0, 0, 0⟩ HS.out.hp HS.out.hbw (by decide) (.inr ⟨by decide, by decide⟩)).mono ?_
  rintro e w3 ⟨rfl, hg⟩
  rw [show ((first4.length : Nat) : Int) = 4 from rfl]
  obtain ⟨F3, hs3, hn3, hT3⟩ := HS.out.grew hg
  clear hg HS
  have hvF3 := hn3 _ bv.lt hvF
  replace bv := bv.turn hT3 hvF
  have HS := Lib.hid hs3
  clear hs3 hn3 hT3 hvF F
  go_wp2_with fail
  refine (alloc_ok w3 w1.heap.size w1.heap.size F3 _ ⟨0, 4, 0, 0⟩ HS.out.hp HS.out.hbw (by decide) (.inr ⟨by decide, by decide⟩)).mono ?_
  rintro e w4 ⟨rfl, hg⟩
  rw [show (((first4 ++ [Ob.fresh ⟨0, 0, 0, 0⟩]).length : Nat) : Int) = 5 from rfl]
  obtain ⟨F4, hs4, hn4, hT4⟩ := HS.out.grew hg
  clear hg HS
  have hvF4 := hn4 _ bv.lt hvF3
  replace bv := bv.turn hT4 hvF3
  have HS : Hid (St w w4 w1.heap.size F4 two4) := Lib.hid hs4
  clear hs4 hn4 hT4 hvF3 F3
  go_wp2_with fail
  refine (hget_calls w4 w1.heap.size w1.heap.size F4 two4 5 other HS.out.hp tied_two HO.out).mono ?_
  rintro e w5 ⟨rfl, hb5⟩
  rw [two_get, told_none]
  replace HS := Lib.hid (HS.out.below hb5)
  replace bv := bv.keep (hb5.block _ bv.lt)
  clear hb5
  have c0 := bv.cell 0
  have c1 := bv.cell 1
  have c2 := bv.cell 2
  have hlt := bv.lt
  go_wp2_with fail
  obtain ⟨w6, hw6⟩ : ∃ w6, w5.alloc (.cells #[.int .i64 0, .int .i64 0, .string ⟨#[]⟩] 33) = w6 := ⟨_, rfl⟩
  have bw : Blk w6 w5.heap.size 33 #[.int .i64 0, .int .i64 0, .string ⟨#[]⟩] := by rw [← hw6]; exact Blk.new _ _ _
  have hb6 : Below w5.heap.size w5 w6 := by rw [← hw6]; exact (Below.refl _ _).alloc (Nat.le_refl _) _
  have hwF : ¬ F4 w5.heap.size := fun h => Nat.lt_irrefl _ (HS.out.hp.foot _ h).2
  rw [hw6]
  clear hw6 c0 c1 c2
  replace HS := Lib.hid (HS.out.below hb6)
  replace bv := bv.keep (hb6.block _ bv.lt)
  clear hb6 hlt
  refine (hput_calls w6 w1.heap.size w1.heap.size F4 two4 4 key v HS.out.hp HS.out.hbw HK.out (small_two.mono (by decide))).mono ?_
  rintro e w7 ⟨rfl, hg⟩
  rw [HP.out] at hg ⊢
  obtain ⟨F7, hs7, hn7, hT7⟩ := HS.out.grew hg
  clear hg HS
  have hvF7 := hn7 _ bv.lt hvF4
  have hwF7 := hn7 _ bw.lt hwF
  replace bv := bv.turn hT7 hvF4
  replace bw := bw.turn hT7 hwF
  have HS := Lib.hid hs7
  clear hs7 hn7 hT7 hvF4 hwF F4
  have c0 := bv.cell 0
  have c1 := bv.cell 1
  have c2 := bv.cell 2
  have hlt := bv.lt
  go_wp2_with fail
  refine (rright_calls w7 v.kind v.n v.s).mono ?_
  rintro e w8 ⟨rfl, hb8⟩
  rw [HR.out]
  replace HS := Lib.hid (HS.out.below hb8)
  replace bv := bv.keep (hb8.block _ bv.lt)
  clear hb8 c0 c1 c2 hlt bw hwF7
  have c0 := bv.cell 0
  have c1 := bv.cell 1
  have c2 := bv.cell 2
  clear hvF7 bv
  go_wp2_with fail
  refine (keys_calls w8 w1.heap.size w1.heap.size F7 _ 4 HS.out.hp (small_two.mono (by decide))).mono ?_
  rintro e wI ⟨u, rfl, hu, hbI⟩
  rw [show keysT two4 4 = [] from rfl] at hu
  obtain ⟨A, c, rfl⟩ := own_slice hu
  replace HS := Lib.hid (HS.out.below hbI)
  clear hu hbI c0 c1 c2
  go_wp2_with fail
  go_ret
  exact ⟨rfl, HS.out.bel⟩

set_option maxRecDepth 100000 in
set_option maxHeartbeats 4000000 in
theorem keeps_high (w : World) (key other : ByteArray) (v : Vl) (hk : key.size ≤ maxLen) (ho : other.size ≤ maxLen) (hr : right v.kind v.n v.s = true) (h5 : (v.kind == 5) = true) (hn0 : decide (v.n < 0) = false) (hn1 : decide (5 < v.n) = true) :
    Calls Try.prog 4 #[.string key, .string other, .agg #[.int .i64 v.kind, .int .i64 v.n, .string v.s]] w fun e w' => e = .returned (.bool true) ∧ Below w.heap.size w w' := by
  have HR := Lib.hid hr
  have HK := Lib.hid hk
  have HO := Lib.hid ho
  have HP : Hid (putT two4 4 key v = (2, two4)) := by
    refine Lib.hid ?_
    rw [kept_put, if_pos]
    exact .inr ⟨by simpa using h5, .inr (by simp at hn1; omega)⟩
  clear hr hk ho
  go_enter Try.func4, Try.ntmps4
  go_wp2_with fail
  obtain ⟨w0, hw0⟩ : ∃ w0, w.alloc (.cells #[.int .i64 v.kind, .int .i64 v.n, .string v.s] 33) = w0 := ⟨_, rfl⟩
  have bv : Blk w0 w.heap.size 33 #[.int .i64 v.kind, .int .i64 v.n, .string v.s] := by rw [← hw0]; exact Blk.new _ _ _
  have hB : Below w.heap.size w w0 := by rw [← hw0]; exact (Below.refl _ _).alloc (Nat.le_refl _) _
  rw [hw0]
  clear hw0
  refine (shown_calls w0).mono ?_
  rintro e w1 ⟨rfl, hb1⟩
  replace bv := bv.keep (hb1.block _ bv.lt)
  replace hB := hB.trans (hb1.mono hB.size)
  clear hb1
  go_wp2_with fail
  refine (new_st w w1 hB).mono ?_
  rintro e w2 ⟨rfl, F, hs, hn, hb2⟩
  have hvF := hn _ bv.lt
  replace bv := bv.keep (hb2.block _ bv.lt)
  clear hb2 hn hB
  have HS := Lib.hid hs
  clear hs
  go_wp2_with fail
  refine (alloc_ok w2 w1.heap.size w1.heap.size F first4 ⟨0, 0, 0, 0⟩ HS.out.hp HS.out.hbw (by decide) (.inr ⟨by decide, by decide⟩)).mono ?_
  rintro e w3 ⟨rfl, hg⟩
  rw [show ((first4.length : Nat) : Int) = 4 from rfl]
  obtain ⟨F3, hs3, hn3, hT3⟩ := HS.out.grew hg
  clear hg HS
  have hvF3 := hn3 _ bv.lt hvF
  replace bv := bv.turn hT3 hvF
  have HS := Lib.hid hs3
  clear hs3 hn3 hT3 hvF F
  go_wp2_with fail
  refine (alloc_ok w3 w1.heap.size w1.heap.size F3 _ ⟨0, 4, 0, 0⟩ HS.out.hp HS.out.hbw (by decide) (.inr ⟨by decide, by decide⟩)).mono ?_
  rintro e w4 ⟨rfl, hg⟩
  rw [show (((first4 ++ [Ob.fresh ⟨0, 0, 0, 0⟩]).length : Nat) : Int) = 5 from rfl]
  obtain ⟨F4, hs4, hn4, hT4⟩ := HS.out.grew hg
  clear hg HS
  have hvF4 := hn4 _ bv.lt hvF3
  replace bv := bv.turn hT4 hvF3
  have HS : Hid (St w w4 w1.heap.size F4 two4) := Lib.hid hs4
  clear hs4 hn4 hT4 hvF3 F3
  go_wp2_with fail
  refine (hget_calls w4 w1.heap.size w1.heap.size F4 two4 5 other HS.out.hp tied_two HO.out).mono ?_
  rintro e w5 ⟨rfl, hb5⟩
  rw [two_get, told_none]
  replace HS := Lib.hid (HS.out.below hb5)
  replace bv := bv.keep (hb5.block _ bv.lt)
  clear hb5
  have c0 := bv.cell 0
  have c1 := bv.cell 1
  have c2 := bv.cell 2
  have hlt := bv.lt
  go_wp2_with fail
  obtain ⟨w6, hw6⟩ : ∃ w6, w5.alloc (.cells #[.int .i64 0, .int .i64 0, .string ⟨#[]⟩] 33) = w6 := ⟨_, rfl⟩
  have bw : Blk w6 w5.heap.size 33 #[.int .i64 0, .int .i64 0, .string ⟨#[]⟩] := by rw [← hw6]; exact Blk.new _ _ _
  have hb6 : Below w5.heap.size w5 w6 := by rw [← hw6]; exact (Below.refl _ _).alloc (Nat.le_refl _) _
  have hwF : ¬ F4 w5.heap.size := fun h => Nat.lt_irrefl _ (HS.out.hp.foot _ h).2
  rw [hw6]
  clear hw6 c0 c1 c2
  replace HS := Lib.hid (HS.out.below hb6)
  replace bv := bv.keep (hb6.block _ bv.lt)
  clear hb6 hlt
  refine (hput_calls w6 w1.heap.size w1.heap.size F4 two4 4 key v HS.out.hp HS.out.hbw HK.out (small_two.mono (by decide))).mono ?_
  rintro e w7 ⟨rfl, hg⟩
  rw [HP.out] at hg ⊢
  obtain ⟨F7, hs7, hn7, hT7⟩ := HS.out.grew hg
  clear hg HS
  have hvF7 := hn7 _ bv.lt hvF4
  have hwF7 := hn7 _ bw.lt hwF
  replace bv := bv.turn hT7 hvF4
  replace bw := bw.turn hT7 hwF
  have HS := Lib.hid hs7
  clear hs7 hn7 hT7 hvF4 hwF F4
  have c0 := bv.cell 0
  have c1 := bv.cell 1
  have c2 := bv.cell 2
  have hlt := bv.lt
  go_wp2_with fail
  refine (rright_calls w7 v.kind v.n v.s).mono ?_
  rintro e w8 ⟨rfl, hb8⟩
  rw [HR.out]
  replace HS := Lib.hid (HS.out.below hb8)
  replace bv := bv.keep (hb8.block _ bv.lt)
  clear hb8 c0 c1 c2 hlt bw hwF7
  have c0 := bv.cell 0
  have c1 := bv.cell 1
  have c2 := bv.cell 2
  clear hvF7 bv
  go_wp2_with fail
  refine (keys_calls w8 w1.heap.size w1.heap.size F7 _ 4 HS.out.hp (small_two.mono (by decide))).mono ?_
  rintro e wI ⟨u, rfl, hu, hbI⟩
  rw [show keysT two4 4 = [] from rfl] at hu
  obtain ⟨A, c, rfl⟩ := own_slice hu
  replace HS := Lib.hid (HS.out.below hbI)
  clear hu hbI c0 c1 c2
  go_wp2_with fail
  go_ret
  exact ⟨rfl, HS.out.bel⟩

theorem keeps_any (w : World) (key other : ByteArray) (v : Vl) (hk : key.size ≤ maxLen) (ho : other.size ≤ maxLen) :
    Calls Try.prog 4 #[.string key, .string other, .agg #[.int .i64 v.kind, .int .i64 v.n, .string v.s]] w fun e w' => e = .returned (.bool true) ∧ Below w.heap.size w w' := by
  by_cases hr : right v.kind v.n v.s = true
  · by_cases h5 : v.kind = 5
    · by_cases hn0 : v.n < 0
      · exact keeps_low w key other v hk ho hr (by simpa using h5) (by simpa using hn0)
      · by_cases hn1 : 5 < v.n
        · exact keeps_high w key other v hk ho hr (by simpa using h5) (by simpa using hn0) (by simpa using hn1)
        · exact keeps_ref w key other v hk ho hr (by simpa using h5) (by simpa using hn0) (by simpa using hn1)
    · exact keeps_main w key other v hk ho hr (by simpa using h5)
  · exact keeps_wrong w key other v hk ho (by simpa using hr)

theorem keeps_arg (w : World) (key : ByteArray) (hk : key.size ≤ maxLen) (other : ByteArray) (ho : other.size ≤ maxLen) (v : Vl) :
    Calls Try.prog 4 #[.string key, .string other, .agg #[.int .i64 v.kind, .int .i64 v.n, .string v.s]] w fun e w' => e = .returned (.bool true) ∧ Below w.heap.size w w' := keeps_any w key other v hk ho

end Go.Proofs.Ytbdkbjfaialeoaa
