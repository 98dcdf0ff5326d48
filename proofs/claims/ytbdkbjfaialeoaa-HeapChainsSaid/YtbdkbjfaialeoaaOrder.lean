/- The walk of HeapOrder: true. -/
import Derived.Test.YtbdkbjfaialeoaaHides
import Derived.Test.YtbdkbjfaialeoaaArgs
namespace Go.Proofs.Ytbdkbjfaialeoaa
open Go.RowKit Go.Sort

theorem addK_nodup {out : List ByteArray} (h : out.Nodup) (k : ByteArray) : (addK out k).Nodup := by
  unfold addK
  cases hm : memS k out with
  | true => simpa using h
  | false =>
    have := memS_not.1 hm
    simp only [Bool.false_eq_true, if_false]
    rw [List.nodup_append]
    refine ⟨h, by simp, ?_⟩
    intro a ha b hb
    simp at hb
    subst hb
    exact fun e => this (e ▸ ha)
theorem addAll_nodup : ∀ (ks : List ByteArray) {out : List ByteArray}, out.Nodup → (addAll out ks).Nodup
  | [], _, h => h
  | k :: ks, _, h => addAll_nodup ks (addK_nodup h k)
theorem addAll_id : ∀ (l out : List ByteArray), (out ++ l).Nodup → addAll out l = out ++ l
  | [], out, _ => by simp [addAll]
  | k :: l, out, h => by
    have h1 : memS k out = false := by
      rw [memS_not]
      intro hk
      rw [List.nodup_append] at h
      exact h.2.2 k hk k (by simp) rfl
    have h2 : addK out k = out ++ [k] := by rw [addK, h1]; rfl
    have h3 : ((out ++ [k]) ++ l).Nodup := by simpa using h
    show addAll (addK out k) l = _
    rw [h2, addAll_id l _ h3]
    simp

/-- The heap of HeapOrder between two rounds. -/
def orderO (ob : Ob) : List Ob := first4 ++ [ob]
structure OrderJ (ob : Ob) (ws : List ByteArray) : Prop where
  o : ob.o = ⟨0, -1, 0, 0⟩
  keys : ob.keys = ws
  vals : ∀ x : ByteArray, (ob.vals x.data.toList).isSome = memS x ws
theorem OrderJ.put {ob : Ob} {ws : List ByteArray} (h : OrderJ ob ws) (x : ByteArray) (v : Vl) : OrderJ (ob.put x v) (addK ws x) := by
  refine ⟨h.o, ?_, fun y => ?_⟩
  · unfold Ob.put addK
    dsimp only
    rw [h.vals, h.keys]
  · unfold Ob.put addK
    dsimp only
    by_cases hy : y.data.toList = x.data.toList
    · have : y = x := Go.WideShapes.bytes_inj hy
      subst this
      rw [if_pos rfl]
      cases hm : memS y ws with
      | true => simp [hm]
      | false => simp [memS]
    · have hne : ¬ x = y := fun e => hy (by rw [e])
      rw [if_neg hy, h.vals]
      cases hm : memS x ws with
      | true => simp
      | false => simp [memS, hne]
theorem OrderJ.putT {ob : Ob} {ws : List ByteArray} (_h : OrderJ ob ws) (x : ByteArray) (n : Int) : putT (orderO ob) 4 x (num n) = (0, orderO (ob.put x (num n))) := putT_ok (p := 4) rfl (num_right n) (by simp [num])
theorem OrderJ.tied {ob : Ob} {ws : List ByteArray} (h : OrderJ ob ws) : Tied (orderO ob) := by
  intro i o hi
  match i, hi with
  | 0, hi => exact tied4 0 o hi
  | 1, hi => exact tied4 1 o hi
  | 2, hi => exact tied4 2 o hi
  | 3, hi => exact tied4 3 o hi
  | 4, hi =>
    simp [orderO, first4] at hi
    subst hi
    rw [h.o]
    decide
  | i + 5, hi => simp [orderO, first4] at hi
theorem OrderJ.small {ob : Ob} {ws : List ByteArray} (h : OrderJ ob ws) {n : Nat} (hn : ws.length ≤ n) (h2 : 2 ≤ n) : Small n (orderO ob) := by
  intro o ho
  rcases List.mem_append.1 ho with ho | ho
  · exact Nat.le_trans (small4 o ho) h2
  · simp at ho
    subst ho
    rw [h.keys]
    exact hn
theorem OrderJ.keysT {ob : Ob} {ws : List ByteArray} (h : OrderJ ob ws) : keysT (orderO ob) 4 = ws := h.keys
theorem OrderJ.allT {ob : Ob} {ws : List ByteArray} (h : OrderJ ob ws) (hn : ws.Nodup) : allT (orderO ob) 4 = ws := by
  have e : chainT (orderO ob) 4 = [4] := by
    show 4 :: chainF (orderO ob) 4 ob.o.proto = _
    rw [h.o]
    rfl
  have k : keysAt (orderO ob) 4 = ws := h.keys
  show allK _ _ = _
  rw [e]
  show addAll [] (keysAt (orderO ob) 4) = ws
  rw [k, addAll_id ws [] (by simpa using hn)]
  simp

/-- Between two rounds. -/
structure OrderR (w : World) (hb : Nat) (xs : List ByteArray) (i : Nat) (u : Value) (wr : World) : Prop where
  st : ∃ F ob, St w wr hb F (orderO ob) ∧ OrderJ ob (addAll [] (xs.take i)) ∧ ∀ g, u.ownBlock = some g → ¬ F g
  own : wr.ownsRow w.heap.size 9 1 u (addAll [] (xs.take i)).length ((addAll [] (xs.take i)).map Value.string)

theorem addAll_take {xs : List ByteArray} {k : Nat} {x : ByteArray} (hx : xs[k]? = some x) : addAll [] (xs.take (k + 1)) = addK (addAll [] (xs.take k)) x := by
  rw [List.take_add_one, hx]
  simp [addAll]
theorem OrderR.next {w W W' : World} {hb : Nat} {F : Nat → Prop} {ob : Ob} {xs : List ByteArray} {k : Nat} {x : ByteArray} {u : Value} (hst : St w W hb F (orderO ob)) (hj : OrderJ ob (addAll [] (xs.take k))) (hn : ∀ g, u.ownBlock = some g → ¬ F g) (hx : xs[k]? = some x)
    (hown : W.ownsRow w.heap.size 9 1 u (addK (addAll [] (xs.take k)) x).length ((addK (addAll [] (xs.take k)) x).map Value.string)) (hg : Grew W hb hb F (orderO (ob.put x (num k))) W') : OrderR w hb xs (k + 1) u W' := by
  obtain ⟨F', hs', hn', hT⟩ := hst.grew hg
  refine ⟨⟨F', _, hs', ?_, fun g hg' => hn' g (hown.lt g hg').2 (hn g hg')⟩, ?_⟩
  · rw [addAll_take hx]
    exact hj.put x _
  · rw [addAll_take hx]
    exact own_keep hown (fun g hg' => hT.block g (hown.lt g hg').2 (hn g hg'))
theorem St.row {w W W' : World} {hb : Nat} {F : Nat → Prop} {os : List Ob} {r : Option Nat} (h : St w W hb F os) (hg : W.grownBy W' r) (hr : ∀ g, r = some g → ¬ F g ∧ w.heap.size ≤ g) : St w W' hb F os :=
  ⟨h.hp.keep (fun k hk => hg.block k (h.hp.foot k hk).2 (fun e => (hr k e.symm).1 hk)), h.bel.grown hg h.bel.size (fun g e => (hr g e).2), h.low, Nat.le_trans h.hbw hg.size⟩

set_option maxRecDepth 100000 in
set_option maxHeartbeats 4000000 in
theorem order_arg (w : World) (v : Value) (xs : List ByteArray) (hx : StrArg w v xs) :
    Calls Try.prog 8 #[v] w fun e w' => e = .returned (.bool true) ∧ Below w.heap.size w w' := by
  obtain ⟨A, c, rfl, hm, hx⟩ := hx
  have HX := Lib.hid hx
  clear hx
  unfold maxLen at hm
  go_enter Try.func8, Try.ntmps8
  go_wp2_with fail
  refine (shown_calls w).mono ?_
  rintro e w1 ⟨rfl, hB⟩
  go_wp2_with fail
  refine (new_st w w1 hB).mono ?_
  rintro e w2 ⟨rfl, F, hs, -, -⟩
  have HS := Lib.hid hs
  clear hs hB
  go_wp2_with fail
  refine (alloc_ok w2 w1.heap.size w1.heap.size F first4 ⟨0, -1, 0, 0⟩ HS.out.hp HS.out.hbw (by decide) (.inl rfl)).mono ?_
  rintro e w3 ⟨rfl, hg⟩
  rw [show ((first4.length : Nat) : Int) = 4 from rfl]
  obtain ⟨F3, hs3, -, -⟩ := HS.out.grew hg
  clear hg HS
  have HR : Hid (OrderR w w1.heap.size xs 0 (.slice none 0 0) w3) :=
    ⟨⟨F3, Ob.fresh ⟨0, -1, 0, 0⟩, hs3, ⟨rfl, rfl, fun x => rfl⟩, fun g hg => by simp [Value.ownBlock] at hg⟩, World.ownsRow_nil _ _ _ _⟩
  clear hs3 F
  go_wp2_with fail
  go_loopw [7, 8] (fun u i wr => ∃ k : Nat, k ≤ xs.length ∧ k ≤ 40 ∧ i = .int .i64 k ∧ OrderR w w1.heap.size xs k u wr) (fun _ i _ => 40 - (intOf i).toNat)
  case atStart => exact ⟨0, by omega, by omega, rfl, HR.out⟩
  case round =>
    clear HR
    obtain ⟨k, hk, hk4, rfl, hr⟩ := hrel
    have HR := Lib.hid hr
    clear hr
    by_cases hlt : k < xs.length
    · by_cases h40 : k < 40
      · have hxk : xs[k]? = some xs[k] := List.getElem?_eq_getElem hlt
        generalize xs[k] = x at hxk
        obtain ⟨a, rfl, hab, hac, hxs⟩ := HX.out k x hxk
        obtain ⟨⟨F, ob, hst, hj, hnf⟩, hown⟩ := HR.out
        have hab' : (a.add k).block < w.heap.size := by
          have : (a.add k).block = a.block := by unfold Addr.add; split <;> rfl
          omega
        have hwl := addAll_len (xs.take k) []
        have htl : (xs.take k).length ≤ k := by simp; omega
        obtain ⟨A2, c2, rfl⟩ := own_slice hown
        generalize hws : addAll [] (xs.take k) = ws at hown hj hwl hnf
        have hwl' : ws.length ≤ 40 := by simp at hwl; omega
        have hac2 : wr.cell? (a.add k) = some (.string x) := (hst.bel.cell hab').trans hac
        have HXK := Lib.hid hxk
        have HAB := Lib.hid hab'
        have HST := Lib.hid hst
        have HJ := Lib.hid hj
        have HNF := Lib.hid hnf
        have HOWN := Lib.hid hown
        have HXS := Lib.hid hxs
        have HSL : Hid (SlR wr (.slice A2 ws.length c2) (ws.map Value.string)) := SlR.of_own hown
        have HWS := Lib.hid hws
        clear hxk hst hj hnf hown hac hab' hab hwl htl hws HR hxs
        go_wp2
        go_loopw [9, 10] (fun th j wv => ∃ m : Nat, m ≤ ws.length ∧ j = .int .i64 m ∧ th = .bool (memS x (ws.take m)) ∧ Below wr.heap.size wr wv) (fun _ j _ => ws.length - (intOf j).toNat)
        case atStart => exact ⟨0, by omega, rfl, rfl, Below.refl _ _⟩
        case round =>
          obtain ⟨m, hml, rfl, rfl, hbv⟩ := hrel
          by_cases hmt : m < ws.length
          · have hy : ws[m]? = some ws[m] := List.getElem?_eq_getElem hmt
            generalize ws[m] = y at hy
            obtain ⟨A', c', hAA, hcells⟩ := HSL.out
            injection hAA with hA1 hA2 hA3
            clear hA2 hA3
            subst hA1
            obtain ⟨b1, o1, hA', hb1, hc1⟩ := hcells m (.string y) (by simp [hy])
            subst hA'
            replace hc1 := (hbv.cell (p := ⟨b1, o1 + m, none⟩) hb1).trans hc1
            have hac3 : wr.cell? (a.add k) = some (.string x) := (hbv.cell (p := a.add k) (World.block_lt_of_cell? _ _ hac2)).trans hac2
            have HTK : Hid (memS x (ws.take (m + 1)) = (memS x (ws.take m) || decide (y = x))) := by
              refine Lib.hid ?_
              rw [List.take_add_one, hy]
              simp [memS]
            clear hcells hy hac2
            cases hmm : memS x (ws.take m) with
            | true =>
              have HMM := Lib.hid hmm
              clear hmm
              go_wp2
              go_region
              go_wp2
              go_roundw
              case rel => exact ⟨m + 1, by omega, by go_num, by rw [HTK.out, HMM.out]; rfl, hbv.drew⟩
              case measure => simp [intOf]; omega
            | false =>
              have HMM := Lib.hid hmm
              clear hmm
              by_cases hyx : y = x
              · have he : (y.toList == x.toList) = true := by simp [hyx]
                have HE := Lib.hid hyx
                clear hyx
                go_wp2
                go_region
                go_wp2
                go_roundw
                case rel => exact ⟨m + 1, by omega, by go_num, by rw [HTK.out, HE.out]; simp, hbv.drew⟩
                case measure => simp [intOf]; omega
              · have he : (y.toList == x.toList) = false := by
                  rw [ByteArray.toList_eq, ByteArray.toList_eq, beq_eq_false_iff_ne]
                  exact fun h => hyx (Go.WideShapes.bytes_inj h)
                have HE := Lib.hid hyx
                clear hyx
                go_wp2
                go_region
                go_wp2
                go_roundw
                case rel => exact ⟨m + 1, by omega, by go_num, by rw [HTK.out, HMM.out]; simp [HE.out], hbv.drew⟩
                case measure => simp [intOf]; omega
          · obtain rfl : m = ws.length := by omega
            have hd : decide ((ws.length : Int) < (ws.length : Int)) = false := by simp
            rw [List.take_length]
            have hac3 : wr.cell? (a.add k) = some (.string x) := (hbv.cell (p := a.add k) (World.block_lt_of_cell? _ _ hac2)).trans hac2
            have HST2 := Lib.hid (HST.out.below hbv)
            have HOWN2 : Hid (wr.ownsRow w.heap.size 9 1 (.slice A2 ws.length c2) ws.length (ws.map Value.string)) := own_keep HOWN.out (fun g hg => hbv.block g (HOWN.out.lt g hg).2)
            have HPT := Lib.hid (HJ.out.putT x k)
            have HSM : Hid (Small 100000 (orderO ob)) := HJ.out.small (by omega) (by omega)
            have hwz := HST2.out.bel.size
            clear hbv hac2
            cases hmm : memS x ws with
            | true =>
              have HAK : Hid (addK ws x = ws) := by refine Lib.hid ?_; rw [addK, hmm]; rfl
              clear hmm
              go_wp2_with fail
              refine (hput_calls _ w1.heap.size w1.heap.size F (orderO ob) 4 x (num k) HST2.out.hp HST2.out.hbw HXS.out HSM.out).mono ?_
              rintro e w' ⟨rfl, hg⟩
              rw [HPT.out] at hg ⊢
              have HN : Hid (OrderR w w1.heap.size xs (k + 1) (.slice A2 ws.length c2) w') :=
                OrderR.next HST2.out (by rw [HWS.out]; exact HJ.out) HNF.out HXK.out (by rw [HWS.out, HAK.out]; exact HOWN2.out) hg
              clear hg hac3
              go_wp2
              go_roundw
              case rel => exact ⟨k + 1, by omega, by omega, by go_num, HN.out⟩
              case measure => simp [intOf]; omega
            | false =>
              have HAK : Hid (addK ws x = ws ++ [x]) := by refine Lib.hid ?_; rw [addK, hmm]; rfl
              clear hmm
              obtain ⟨i0, hi0, hz0, hz1, hz2⟩ := info_parts info_str
              go_wp2_with (at_builtin; refine wpList_append_lies _ rfl _ _ 38 rfl w.heap.size 9 i0 _ 1 16 Try.underlying38 hi0 hz0 hz1 hz2 rfl (by omega) (.slice A2 ws.length c2) ws.length (ws.map Value.string) rfl (HOWN2.out.alloc _) ⟨wr.heap.size, 0, none⟩ 1 1 [.string x] rfl rfl (World.news_of_block (cs := #[.string x]) (t := 9) (fr := (0, 0)) (Blk.new wr _ _)) (by simp [Value.oneCell']) (by omega) (by simp only [maxLen]; omega) (by omega) (by simp; omega) (wr.heap.size + 1) (by simp) ?_; intro g cap w5 hown1 hgrow1 hat1 hlt1; have hac5 : w5.cell? (a.add k) = some (.string x) := (World.cell?_of_block (hgrow1.block _ (by simp; have := World.block_lt_of_cell? _ _ hac3; omega) (fun e => by have := (HOWN2.out.lt _ e.symm).1; have := HAB.out; omega))).trans (Lib.cell?_alloc_some _ hac3))
              have hst5 := (HST2.out.below ((Below.refl _ _).alloc (Nat.le_refl _) (.cells #[.string x] 9))).row hgrow1 (fun g' hg' => ⟨HNF.out g' hg', (HOWN2.out.lt g' hg').1⟩)
              have hnf5 : ∀ g', (Value.slice (some ⟨g, 0, none⟩) (ws.length + 1) cap).ownBlock = some g' → ¬ F g' := by
                intro g' hg'
                simp [Value.ownBlock] at hg'
                subst hg'
                rcases hat1 with h | h
                · exact HNF.out _ h
                · intro hf
                  have := (HST2.out.hp.foot _ hf).2
                  omega
              clear hgrow1 hat1 hlt1 hac3 hac5 hi0 hz0 hz1 hz2
              refine (hput_calls _ w1.heap.size w1.heap.size F (orderO ob) 4 x (num k) hst5.hp hst5.hbw HXS.out HSM.out).mono ?_
              rintro e w' ⟨rfl, hg⟩
              rw [HPT.out] at hg ⊢
              have HN : Hid (OrderR w w1.heap.size xs (k + 1) (.slice (some ⟨g, 0, none⟩) (ws.length + 1) cap) w') :=
                OrderR.next hst5 (by rw [HWS.out]; exact HJ.out) hnf5 HXK.out (by rw [HWS.out, HAK.out]; simpa using hown1) hg
              clear hg hst5 hnf5 hown1
              go_wp2
              go_roundw
              case rel => exact ⟨k + 1, by omega, by omega, by go_num, HN.out⟩
              case measure => simp [intOf]; omega
      · have h40' : decide ((k : Int) < 40) = false := by simp; omega
        obtain ⟨⟨F, ob, hst, hj, hnf⟩, hown⟩ := HR.out
        have hwn : Hid (addAll [] (xs.take k)).Nodup := addAll_nodup _ (by simp)
        have hwl := addAll_len (xs.take k) []
        have htl : (xs.take k).length ≤ 40 := by simp; omega
        generalize addAll [] (xs.take k) = ws at hown hj hwl hwn
        have hwl' : ws.length ≤ 40 := by simp at hwl; omega
        obtain ⟨A2, c2, rfl⟩ := own_slice hown
        have HKT := Lib.hid hj.keysT
        have HAT := Lib.hid (hj.allT hwn.out)
        have HTI := Lib.hid hj.tied
        have HSM : Hid (Small 1000 (orderO ob)) := hj.small (by omega) (by omega)
        have HST := Lib.hid hst
        have HSL : Hid (SlR wr (.slice A2 ws.length c2) (ws.map Value.string)) := SlR.of_own hown
        clear hst hj hnf hown hwl htl HR HX hwn
        go_wp2_with fail
        refine (keys_calls _ w1.heap.size w1.heap.size F _ 4 HST.out.hp (HSM.out.mono (by decide))).mono ?_
        rintro e wI ⟨u, rfl, hu, hbI⟩
        rw [HKT.out] at hu
        have HST2 := Lib.hid (HST.out.below hbI)
        have HSL2 := Lib.hid (HSL.out.below hbI)
        have HU := Lib.hid (SlR.of_own hu)
        clear hu hbI
        go_wp2_with fail
        refine (same_calls _ u (.slice A2 ws.length c2) ws ws HU.out HSL2.out (by simp only [maxLen]; omega)).mono ?_
        rintro e wJ ⟨rfl, hbJ⟩
        rw [show sameS ws ws = true from by simp [sameS]]
        have HST3 := Lib.hid (HST2.out.below hbJ)
        have HSL3 := Lib.hid (HSL2.out.below hbJ)
        clear hbJ HU HST2 HSL2
        go_wp2_with fail
        refine (hall_calls _ w1.heap.size w1.heap.size F _ 4 HST3.out.hp HTI.out (HSM.out.mono (by decide)) (by simp [orderO, first4])).mono ?_
        rintro e wK ⟨u2, rfl, hu, hbK⟩
        rw [HAT.out] at hu
        have HST4 := Lib.hid (HST3.out.below hbK)
        have HSL4 := Lib.hid (HSL3.out.below hbK)
        have HU := Lib.hid (SlR.of_own hu)
        clear hu hbK
        go_wp2_with fail
        refine (same_calls _ u2 (.slice A2 ws.length c2) ws ws HU.out HSL4.out (by simp only [maxLen]; omega)).mono ?_
        rintro e wL ⟨rfl, hbL⟩
        rw [show sameS ws ws = true from by simp [sameS]]
        have HB := Lib.hid (HST4.out.below hbL).bel
        clear hbL
        go_wp2_with fail
        go_ret
        exact ⟨rfl, HB.out⟩
    · obtain rfl : k = xs.length := by omega
      have hkk : decide ((xs.length : Int) < (xs.length : Int)) = false := by simp
      obtain ⟨⟨F, ob, hst, hj, hnf⟩, hown⟩ := HR.out
      have hwn : Hid (addAll [] (xs.take xs.length)).Nodup := addAll_nodup _ (by simp)
      have hwl := addAll_len (xs.take xs.length) []
      have htl : (xs.take xs.length).length ≤ 40 := by simp; omega
      generalize addAll [] (xs.take xs.length) = ws at hown hj hwl hwn
      have hwl' : ws.length ≤ 40 := by simp at hwl; omega
      obtain ⟨A2, c2, rfl⟩ := own_slice hown
      have HKT := Lib.hid hj.keysT
      have HAT := Lib.hid (hj.allT hwn.out)
      have HTI := Lib.hid hj.tied
      have HSM : Hid (Small 1000 (orderO ob)) := hj.small (by omega) (by omega)
      have HST := Lib.hid hst
      have HSL : Hid (SlR wr (.slice A2 ws.length c2) (ws.map Value.string)) := SlR.of_own hown
      clear hst hj hnf hown hwl htl HR HX hwn
      go_wp2_with fail
      refine (keys_calls _ w1.heap.size w1.heap.size F _ 4 HST.out.hp (HSM.out.mono (by decide))).mono ?_
      rintro e wI ⟨u, rfl, hu, hbI⟩
      rw [HKT.out] at hu
      have HST2 := Lib.hid (HST.out.below hbI)
      have HSL2 := Lib.hid (HSL.out.below hbI)
      have HU := Lib.hid (SlR.of_own hu)
      clear hu hbI
      go_wp2_with fail
      refine (same_calls _ u (.slice A2 ws.length c2) ws ws HU.out HSL2.out (by simp only [maxLen]; omega)).mono ?_
      rintro e wJ ⟨rfl, hbJ⟩
      rw [show sameS ws ws = true from by simp [sameS]]
      have HST3 := Lib.hid (HST2.out.below hbJ)
      have HSL3 := Lib.hid (HSL2.out.below hbJ)
      clear hbJ HU HST2 HSL2
      go_wp2_with fail
      refine (hall_calls _ w1.heap.size w1.heap.size F _ 4 HST3.out.hp HTI.out (HSM.out.mono (by decide)) (by simp [orderO, first4])).mono ?_
      rintro e wK ⟨u2, rfl, hu, hbK⟩
      rw [HAT.out] at hu
      have HST4 := Lib.hid (HST3.out.below hbK)
      have HSL4 := Lib.hid (HSL3.out.below hbK)
      have HU := Lib.hid (SlR.of_own hu)
      clear hu hbK
      go_wp2_with fail
      refine (same_calls _ u2 (.slice A2 ws.length c2) ws ws HU.out HSL4.out (by simp only [maxLen]; omega)).mono ?_
      rintro e wL ⟨rfl, hbL⟩
      rw [show sameS ws ws = true from by simp [sameS]]
      have HB := Lib.hid (HST4.out.below hbL).bel
      clear hbL
      go_wp2_with fail
      go_ret
      exact ⟨rfl, HB.out⟩

end Go.Proofs.Ytbdkbjfaialeoaa
