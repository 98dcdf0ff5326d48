/- jtree.all's iterator, walked. -/
import Derived.Test.YtcidccifnaecaaaDoorAll1
import Derived.Shelf.Abstract
import Derived.Shelf.RegionOpen
namespace Go.Proofs.YtcidccifnaecaaaDoor
open Go.RowKit Go.Shelf
attribute [local go_sem] Oper.semAt_some

set_option maxHeartbeats 400000 in
theorem all_calls (w : World) (A : Option Addr) (m c : Nat) (op n line : Int) (s : ByteArray) :
    Calls Tryd.prog 54 #[.agg #[.int .i64 op, .string s, .int .i64 n, .slice A m c, .int .i64 line]] w fun e w' => e = .returned (.func (.func 87) #[] #[.pointer (some ⟨w.heap.size, 0, none⟩)]) ∧
      w.alloc (.cells #[.int .i64 op, .string s, .int .i64 n, .slice A m c, .int .i64 line] 24) = w' := by
  go_enter Tryd.func54, Tryd.ntmps54
  go_wp2
  go_ret
  exact ⟨rfl, rfl⟩

/-- What a call of yield does. -/
def YieldJ (w0 : World) (J : Jt) (l : Nat) : Prop := ∀ (m : Nat) (pre : List (Tree × Value)) (F : Nat → Prop) (W : World) (u : Tree) (A : Option Addr) (k c : Nat), J true pre F W → pre.length < 1073741824 → Good w0 (u, .slice A k c) →
  YieldAt Fence.wide m Tryd.prog l #[.agg #[.int .i64 u.op, .string u.s, .int .i64 u.n, .slice A k c, .int .i64 u.line]] W fun e W' => ∃ b F', e = .returned (.bool b) ∧ J b (pre ++ [(u, .slice A k c)]) F' W' ∧ Kpt F W W' F'
/-- What the iterator does. -/
def WalksJ (J : Jt) (t : Tree) (pre : List (Tree × Value)) (F : Nat → Prop) (W : World) (e : Ending) (W' : World) : Prop :=
  (∃ v, e = .returned v) ∧ ∃ b q F', J b (pre ++ q) F' W' ∧ Kpt F W W' F' ∧ (b = true → q.map Prod.fst = t.flat) ∧ q.map Prod.fst <+: t.flat

theorem leaf87 {n : Nat} {R : Ending → World → Prop} {tmps : Array Value} {W : World} (h : ∀ v, R (.returned v) W) : LeavesInM Fence.wide n Tryd.prog Tryd.f87 tmps R [] .returning W :=
  ⟨_, results_none rfl _ _ _, h _⟩
abbrev marks (ms : List Nat) : List Deferred := ms.map fun r => { target := .collected r, args := #[] }

/-- The loop over a part's parts, between two rounds. -/
structure LoopJ (J : Jt) (t : Tree) (pre : List (Tree × Value)) (F : Nat → Prop) (W1 : World) (k : Nat) (ms : List Nat) (wr : World) : Prop where
  st : ∃ q F', J true (pre ++ q) F' wr ∧ Kpt F W1 wr F' ∧ q.map Prod.fst = t :: flats (t.l.take k) ∧ ∀ r ∈ ms, wr.heap[r]? = some (.deferred (some [])) ∧ W1.heap.size ≤ r ∧ ¬ F' r
  nd : ms.Nodup

set_option maxRecDepth 100000 in
set_option maxHeartbeats 800000 in
theorem all1_in : ∀ (d n l Bn : Nat) (w0 : World) (J : Jt) (_ : JOk w0 J) (_ : YieldJ w0 J l) (t : Tree) (sl : Value) (pre : List (Tree × Value)) (F : Nat → Prop) (W : World),
    Kids w0 d t.l sl → t.ok → Blk5 W Bn t.op t.s t.n sl t.line → ¬ F Bn → J true pre F W → pre.length + t.flat.length ≤ 1073741824 →
    CallsIn Fence.wide n Tryd.prog 87 #[.func (.yield l) #[] #[], .pointer (some ⟨Bn, 0, none⟩)] W (WalksJ J t pre F W) := by
  intro d
  induction d using Nat.strongRecOn with
  | _ d ih =>
  intro n l Bn w0 J JO hY t sl pre F W hk hok hbx hBn hJ hlen
  have HLEN := Lib.hid hlen
  have hlen1 : pre.length < 1073741824 := by rw [flat_eq, List.length_cons] at hlen; omega
  clear hlen
  have IH := Lib.hid ih
  have HYO := Lib.hid hY
  have HJO := Lib.hid JO
  have HK := Lib.hid hk
  have HOK := Lib.hid hok
  obtain ⟨hl, A, c, rfl⟩ := hk.form
  unfold maxLen at hl
  obtain ⟨W1, hW1⟩ : ∃ W1, W.alloc (.cells #[.func (.yield l) #[] #[]] 27) = W1 := ⟨_, rfl⟩
  have hT1 : Turn (fun _ => False) W W1 := by rw [← hW1]; exact (Turn.refl _ _).alloc _
  have hJ1 : J true pre F W1 := JO.keep hJ (hT1.mono (fun _ _ e => e.elim))
  have hb1 := hbx.keep hT1.none_below
  have hx0 := hb1.c0
  have hx1 := hb1.c1
  have hx2 := hb1.c2
  have hx3 := hb1.c3
  have hx4 := hb1.c4
  have hB2 : Blk W1 W.heap.size 27 #[.func (.yield l) #[] #[]] := by rw [← hW1]; exact Blk.new _ _ _
  have hy2 := hB2.cell 0
  have hFB : ¬ F W.heap.size := fun h => Nat.lt_irrefl _ (JO.foot hJ _ h)
  obtain ⟨fn, tmps, assign, body, hy, hR⟩ := hY (n - 1) pre F W1 t A t.l.length c hJ1 hlen1 ⟨hok, d, hk⟩
  refine callsIn_of_wp_marks Tryd.func87 rfl trivial ?_ rfl
  simp only [Tryd.ntmps87, List.size_toArray, List.length_cons, List.length_nil, Nat.reduceAdd, Nat.reduceSub, Array.replicate_succ, Array.replicate_zero, List.push_toArray, List.append_toArray, List.nil_append, List.cons_append]
  gi_wp2
  refine ⟨fun hh => (by cases hh), hR.mono ?_⟩
  rintro e W2 ⟨b, F2, rfl, hJ2, hK2⟩
  have HKP := Lib.hid (hK2.old hT1)
  have HJ2 := Lib.hid hJ2
  have HK2 := Lib.hid hK2
  clear hR hJ hJ1 hy
  cases b with
  | false =>
    gi_wp2
    refine leaf87 fun v => ⟨⟨_, rfl⟩, false, _, F2, HJ2.out, HKP.out, fun h => (by cases h), ?_⟩
    rw [flat_eq]
    exact ⟨flats t.l, rfl⟩
  | true =>
    have hBn1 : Bn < W1.heap.size := World.block_lt_of_cell? _ _ hx0
    have e2 : ∀ {k v}, W1.cell? ⟨Bn, k, none⟩ = some v → W2.cell? ⟨Bn, k, none⟩ = some v := fun h => (World.cell?_of_block (hK2.turn.block _ hBn1 hBn)).trans h
    have hx3 := e2 hx3
    gi_wp2
    have HL0 : Hid (LoopJ J t pre F W1 0 [] W2) := Lib.hid ⟨⟨_, F2, HJ2.out, HK2.out, by simp [flats], by simp⟩, by simp⟩
    have HB2 := Lib.hid hB2
    have HB1 := Lib.hid hb1
    clear hK2 HJ2 HK2 HKP hx0 hx1 hx2 hx3 hx4 e2 hb1 hB2 hy2 hbx hk
    refine wpIn_loop (fun a' w' => ∃ (k : Nat) (ms : List Nat) (u4 u14 u15 u16 u17 u18 u24 : Value), k ≤ t.l.length ∧ LoopJ J t pre F W1 k ms w' ∧ a' = { tmps := #[.func (.yield l) #[] #[], .pointer (some ⟨Bn, 0, none⟩), .pointer (some ⟨W.heap.size, 0, none⟩), undef, u4, undef, .func (.yield l) #[] #[],
      .agg #[.int .i64 t.op, .string t.s, .int .i64 t.n, .slice A t.l.length c, .int .i64 t.line], .bool true, .bool false, .pointer (some ⟨Bn, 3, none⟩), .slice A t.l.length c, .int .i64 t.l.length, .int .i64 k, u14, u15, u16, u17, u18, undef, undef, undef, undef, undef, u24], defers := marks ms })
      (fun a' _ => t.l.length - (intOf (a'.tmps.getD 13 undef)).toNat) ?_ ?_
    · exact ⟨0, [], undef, undef, undef, undef, undef, undef, undef, by omega, HL0.out, rfl⟩
    · rintro a' wr ⟨k, ms, u4, u14, u15, u16, u17, u18, u24, hk, ⟨⟨q, F', hJr, hKr, hq, hms⟩, hnd⟩, rfl⟩
      have HJR := Lib.hid hJr
      have HKR := Lib.hid hKr
      have HQ := Lib.hid hq
      have HMS := Lib.hid hms
      have HND := Lib.hid hnd
      clear hJr hKr hq hms hnd HL0
      by_cases hlt : k < t.l.length
      · have hy : t.l[k]? = some t.l[k] := List.getElem?_eq_getElem hlt
        generalize t.l[k] = u at hy
        have hlow := HJO.out.low HJR.out
        obtain ⟨a, sl, d1, hd1, rfl, hN, hKu, hoku⟩ := HK.out.at_ hy
        obtain ⟨_, A2, c2, rfl⟩ := hKu.form
        obtain ⟨d0, d1', d2, d3, d4⟩ := hN.below hlow
        have HY := Lib.hid hy
        have HKU := Lib.hid hKu
        have HOKU := Lib.hid hoku
        have HD1 := Lib.hid hd1
        clear hN hKu hoku hy hd1 hlow
        gi_wp2
        refine ⟨trivial, fun hh => (by cases hh), (callsIn_wide.2 (all_calls _ _ _ _ _ _ _ _)).mono ?_⟩
        rintro e wb ⟨rfl, hwb⟩
        clear d0 d1' d2 d3 d4
        have hTb : Turn (fun _ => False) wr wb := by rw [← hwb]; exact ((Turn.refl _ _).alloc _).alloc _
        have hszb : wb.heap.size = wr.heap.size + 1 + 1 := by rw [← hwb]; simp
        have hbc : Blk5 wb (wr.heap.size + 1) u.op u.s u.n (.slice A2 u.l.length c2) u.line := by
          rw [← hwb]
          have := blk5_new (wr.alloc (.cells #[.int .i64 u.op, .string u.s, .int .i64 u.n, .slice A2 u.l.length c2, .int .i64 u.line] 24)) u.op u.s u.n (.slice A2 u.l.length c2) u.line
          simpa using this
        clear hwb
        have hw2 : wr.heap.size + 1 < wb.heap.size := by omega
        clear hszb
        gi_wp2
        have hBw : Blk wb W.heap.size 27 #[.func (.yield l) #[] #[]] := (HB2.out.keep (HKR.out.turn.block _ HB2.out.lt hFB)).keep (hTb.block _ (Nat.lt_of_lt_of_le HB2.out.lt HKR.out.turn.size) (fun h => h))
        have hFb' : ¬ F' W.heap.size := HKR.out.foot _ HB2.out.lt hFB
        have hBlt : W.heap.size < wr.heap.size := Nat.lt_of_lt_of_le HB2.out.lt HKR.out.turn.size
        have hlq : (pre ++ q).length + u.flat.length ≤ 1073741824 := by
          have h1 := flats_append (t.l.take (k + 1)) (t.l.drop (k + 1))
          rw [List.take_append_drop, flats_next HY.out] at h1
          have h2 := congrArg List.length h1
          have h3 := congrArg List.length HQ.out
          have h4 := HLEN.out
          rw [flat_eq] at h4
          simp only [List.length_append, List.length_cons, List.length_map] at h2 h3 h4 ⊢
          omega
        have hJb : J true (pre ++ q) F' wb := HJO.out.keep HJR.out (hTb.mono (fun _ _ e => e.elim))
        have hfr : ∀ x, F' x → x < wr.heap.size := HJO.out.foot HJR.out
        refine range_wide (gf := 87) (lb := #[.pointer (some ⟨wr.heap.size + 1, 0, none⟩)]) rfl (enters_of Tryd.func87 (by kernel_rfl) rfl) ?_
        intro fn' R hR'
        obtain ⟨wc, hwc⟩ : ∃ wc, (wb.alloc (.deferred (some []))).alloc (R .ready none) = wc := ⟨_, rfl⟩
        have hTc : Turn (fun _ => False) wb wc := by rw [← hwc]; exact ((Turn.refl _ _).alloc _).alloc _
        have hrec : wc.heap[wb.heap.size + 1]? = some (R .ready none) := by
          rw [← hwc]
          have := heap_alloc_new (wb.alloc (.deferred (some []))) (R .ready none)
          simpa using this
        have hdd : wc.heap[wb.heap.size]? = some (.deferred (some [])) := by
          rw [← hwc, Below.heap_alloc _ _ _ (by simp)]
          exact heap_alloc_new _ _
        rw [hwc]
        clear hwc
        have hIJ : inJ J (wb.heap.size + 1) wb.heap.size W.heap.size (.func (.yield l) #[] #[]) .ret 27 R true (pre ++ q) (fun x => F' x ∨ x = wb.heap.size + 1 ∨ x = wb.heap.size ∨ x = W.heap.size) wc :=
          ⟨F', HJO.out.keep hJb (hTc.mono (fun _ _ e => e.elim)), fun _ => Iff.rfl, fun h => by have := hfr _ h; omega, fun h => by have := hfr _ h; omega, hFb', hrec, hdd, hBw.keep (hTc.block _ hBw.lt (fun h => h))⟩
        refine (IH.out d1 HD1.out (n - 1) (wb.heap.size + 1) (wr.heap.size + 1) w0 _ (inJ_ok HJO.out _ _ _ _ _ _ R) ?_ u _ (pre ++ q) _ wc HKU.out HOKU.out (hbc.keep hTc.none_below) ?_ hIJ hlq).mono ?_
        · -- a round
          intro m' p G X u' A3 k3 c3 hin hpl hgood
          obtain ⟨F0, hJ0, hG, n1, n2, n3, hrec0, hD0, hB0⟩ := hin
          rw [if_pos rfl] at hrec0
          have hgo := fun (b : Bool) (Wb W3 : World) (F0' : Nat → Prop) (Y : Obj) hD hB hWb hl hJ3 hK3 hX => @inJ_next w0 J HJO.out (wb.heap.size + 1) wb.heap.size W.heap.size (.func (.yield l) #[] #[]) .ret 27 R (by omega) (by omega) (p ++ [(u', .slice A3 k3 c3)]) G F0 F0' X Wb W3 b Y hG n1 n2 n3 hD hB hWb hl hJ3 hK3 hX
          have HGO := Lib.hid hgo
          clear hgo
          refine (yield_of hR' (fun W' => ∃ F', inJ J (wb.heap.size + 1) wb.heap.size W.heap.size (.func (.yield l) #[] #[]) .ret 27 R true (p ++ [(u', .slice A3 k3 c3)]) F' W' ∧ Kpt G X W' F') (fun c W' => c = .ret ∧ ∃ F', inJ J (wb.heap.size + 1) wb.heap.size W.heap.size (.func (.yield l) #[] #[]) .ret 27 R false (p ++ [(u', .slice A3 k3 c3)]) F' W' ∧ Kpt G X W' F') trivial hrec0 rfl ?_).mono ?_
          · clear hR'
            gi_wp2
            obtain ⟨Wb, hWb⟩ : ∃ Wb, (X.alloc (.cells #[.int .i64 u'.op, .string u'.s, .int .i64 u'.n, .slice A3 k3 c3, .int .i64 u'.line] 24)).putObj (wb.heap.size + 1) (R .busy none) = Wb := ⟨_, rfl⟩
            have hrl := (Array.getElem?_eq_some_iff.1 hrec0).1
            have hra : (X.alloc (.cells #[.int .i64 u'.op, .string u'.s, .int .i64 u'.n, .slice A3 k3 c3, .int .i64 u'.line] 24)).heap[wb.heap.size + 1]? = some (R .ready none) := (Below.heap_alloc _ _ _ hrl).trans hrec0
            have hTw : Turn (fun x => x = wb.heap.size + 1) X Wb := by
              rw [← hWb]
              exact ((Turn.refl _ X).alloc _).trans (turn_put _ _ _) (fun _ _ h => h)
            have hbz : Wb.heap[wb.heap.size + 1]? = some (R .busy none) := by
              rw [← hWb]
              exact World.putObj_heap_same (by simp; omega)
            have h5 : Blk5 Wb X.heap.size u'.op u'.s u'.n (.slice A3 k3 c3) u'.line := by
              have h1 := blk5_new X u'.op u'.s u'.n (.slice A3 k3 c3) u'.line
              have hne : X.heap.size ≠ wb.heap.size + 1 := by omega
              have e : ∀ i, Wb.cell? ⟨X.heap.size, i, none⟩ = (X.alloc (.cells #[.int .i64 u'.op, .string u'.s, .int .i64 u'.n, .slice A3 k3 c3, .int .i64 u'.line] 24)).cell? ⟨X.heap.size, i, none⟩ := fun i => by
                rw [← hWb]
                exact World.cell?_of_block (World.putObj_heap_other hne)
              exact ⟨(e _).trans h1.c0, (e _).trans h1.c1, (e _).trans h1.c2, (e _).trans h1.c3, (e _).trans h1.c4⟩
            have hDb : Wb.heap[wb.heap.size]? = some (.deferred (some [])) := (hTw.block _ (Array.getElem?_eq_some_iff.1 hD0).1 (by omega)).trans hD0
            have hBb : Blk Wb W.heap.size 27 #[.func (.yield l) #[] #[]] := hB0.keep (hTw.block _ hB0.lt (by omega))
            have hJw : J true p F0 Wb := HJO.out.keep hJ0 (hTw.mono (fun x _ e h => by subst e; exact n1 h))
            have hlw : wb.heap.size + 1 < Wb.heap.size := (Array.getElem?_eq_some_iff.1 hbz).1
            refine ⟨hra, ?_⟩
            rw [hWb]
            obtain ⟨q0, q1, q2, q3, q4⟩ := h5
            have qB := hBb.cell 0
            obtain ⟨fn3, tmps3, assign3, body3, hy3, hR3⟩ := HYO.out (m' - 1) p F0 Wb u' A3 k3 c3 hJw hpl hgood
            have HBZ := Lib.hid hbz
            have HGF := Lib.hid (fun (b : Bool) W3 F0' hJ3 hK3 => HGO.out b Wb W3 F0' (if b = true then R .ready none else R .done (some .ret)) hDb hBb hTw hlw hJ3 hK3 rfl)
            clear hWb hra hbz hTw hDb hBb hJw HGO
            gi_wp2
            refine ⟨fun hh => (by cases hh), (RoundIn.inRound _ hR3).mono ?_⟩
            rintro e W3 ⟨b, F0', rfl, hJ3, hK3⟩
            have hg3 := HGF.out b W3 F0' hJ3 hK3
            have hb3 : W3.heap[wb.heap.size + 1]? = some (R .busy none) := (hK3.turn.block _ hlw n1).trans HBZ.out
            have HG3 := Lib.hid hg3
            clear hg3 hJ3 hK3 hR3 hy3
            cases b with
            | false =>
              gi_wp2
              exact ⟨hb3, rfl, HG3.out⟩
            | true =>
              gi_wp2
              exact ⟨hb3, HG3.out⟩
          · rintro e W' (⟨rfl, F', h1, h2⟩ | ⟨rfl, _, _, F', h1, h2⟩)
            · exact ⟨true, F', rfl, h1, h2⟩
            · exact ⟨false, F', rfl, h1, h2⟩
        · rintro (h | h | h | h)
          · have := hfr _ h
            omega
          · omega
          · omega
          · omega
        · rintro e W5 ⟨hv, b, q2, F5, ⟨F0', hJ5, hG5, n1, n2, n3, hrec5, hD5, hB5⟩, hK5, hq1, hq2⟩
          have hBr : Blk wr W.heap.size 27 #[.func (.yield l) #[] #[]] := HB2.out.keep (HKR.out.turn.block _ HB2.out.lt hFB)
          have hTbc := hTb.trans hTc (fun _ _ h => h)
          have hKw : Kpt F' wr W5 F0' := by
            refine ⟨⟨hK5.turn.os.trans hTbc.os, hK5.turn.tape.trans hTbc.tape, hK5.turn.output.trans hTbc.output, Nat.le_trans hTbc.size hK5.turn.size, fun x hx hn => ?_⟩, fun x hx hn hf => ?_⟩
            · by_cases hxB : x = W.heap.size
              · subst hxB
                exact (show W5.heap[W.heap.size]? = some _ from hB5).trans (show wr.heap[W.heap.size]? = some _ from hBr).symm
              · rw [hK5.turn.block x (Nat.lt_of_lt_of_le hx hTbc.size) (by rintro (h | h | h | h); exact hn h; omega; omega; exact hxB h), hTbc.block x hx (fun h => h)]
            · by_cases hxB : x = W.heap.size
              · subst hxB
                exact n3 hf
              · exact hK5.foot x (Nat.lt_of_lt_of_le hx hTbc.size) (by rintro (h | h | h | h); exact hn h; omega; omega; exact hxB h) ((hG5 x).2 (.inl hf))
          obtain ⟨W6, hW6⟩ : ∃ W6, W5.putObj (wb.heap.size + 1) (if b = true then R .exhausted none else R .exhausted (some .ret)) = W6 := ⟨_, rfl⟩
          have hT6 : Turn (fun x => x = wb.heap.size + 1) W5 W6 := by rw [← hW6]; exact turn_put _ _ _
          have hJ6 : J b (pre ++ (q ++ q2)) F0' W6 := by
            have := HJO.out.keep hJ5 (hT6.mono (fun x _ e h => by subst e; exact n1 h))
            rwa [List.append_assoc] at this
          have hK6 : Kpt F' wr W6 F0' := ⟨hKw.turn.trans hT6 (fun x hx e => by omega), hKw.foot⟩
          have hKf : Kpt F W1 W6 F0' := HKR.out.trans hK6
          have hD6 : W6.heap[wb.heap.size]? = some (.deferred (some [])) := (hT6.block _ (Array.getElem?_eq_some_iff.1 hD5).1 (by omega)).trans hD5
          have hm6 : ∀ r ∈ wb.heap.size :: ms, W6.heap[r]? = some (.deferred (some [])) ∧ W1.heap.size ≤ r ∧ ¬ F0' r := by
            intro r hr
            rcases List.mem_cons.1 hr with rfl | hr
            · exact ⟨hD6, Nat.le_trans HKR.out.turn.size (by omega), n2⟩
            · obtain ⟨h1, h2, h3⟩ := HMS.out r hr
              have hrl := (Array.getElem?_eq_some_iff.1 h1).1
              exact ⟨(hK6.turn.block r hrl h3).trans h1, h2, hK6.foot r hrl h3⟩
          have hnd6 : (wb.heap.size :: ms).Nodup := by
            rw [List.nodup_cons]
            refine ⟨fun hr => ?_, HND.out⟩
            have := (Array.getElem?_eq_some_iff.1 (HMS.out _ hr).1).1
            omega
          refine ⟨hv, hD5, ?_⟩
          cases b with
          | true =>
            refine .inl ⟨hrec5, ?_⟩
            rw [if_pos rfl] at hW6
            rw [hW6]
            have HLJ : Hid (LoopJ J t pre F W1 (k + 1) (wb.heap.size :: ms) W6) := Lib.hid ⟨⟨q ++ q2, F0', hJ6, hKf, by rw [List.map_append, HQ.out, hq1 rfl, flats_next HY.out]; rfl, hm6⟩, hnd6⟩
            clear hJ6 hK6 hKf hm6 hnd6 hD6 hT6 hW6 hKw hBr hTbc hK5 hB5 hD5 hrec5 hG5 hJ5 hR'
            gi_wp2
            exact ⟨⟨k + 1, by omega, wb.heap.size :: ms, HLJ.out, by go_num, rfl⟩, by simp [intOf]; omega⟩
          | false =>
            refine .inr ⟨.ret, hrec5, ?_⟩
            rw [if_neg (by simp)] at hW6
            rw [hW6]
            gi_wp2
            refine leaves_marks (wb.heap.size :: ms) W6 (fun r hr => (hm6 r hr).1) hnd6 fun W7 hW7 => leaf87 fun v => ⟨⟨_, rfl⟩, false, q ++ q2, F0', HJO.out.keep hJ6 (hW7.mono (fun x _ hx => (hm6 x hx).2.2)), ((hKf.marks hW7 (fun r hr => (hm6 r hr).2.1)).old hT1), fun h => (by cases h), ?_⟩
            rw [List.map_append, HQ.out, flat_eq]
            obtain ⟨z, hz⟩ := hq2
            refine ⟨z ++ flats (t.l.drop (k + 1)), ?_⟩
            have h1 := flats_append (t.l.take (k + 1)) (t.l.drop (k + 1))
            rw [List.take_append_drop, flats_next HY.out] at h1
            rw [h1, ← hz]
            simp
      · obtain rfl : k = t.l.length := by omega
        have hd : decide ((t.l.length : Int) < (t.l.length : Int)) = false := by simp
        gi_wp2
        refine leaves_marks ms wr (fun r hr => (HMS.out r hr).1) HND.out fun W7 hW7 => leaf87 fun v => ⟨⟨_, rfl⟩, true, q, F', HJO.out.keep HJR.out (hW7.mono (fun x _ hx => (HMS.out x hx).2.2)), (HKR.out.marks hW7 (fun r hr => (HMS.out r hr).2.1)).old hT1, fun _ => ?_, ?_⟩
        · rw [HQ.out, flat_eq, List.take_length]
        · rw [HQ.out, flat_eq, List.take_length]
          exact ⟨[], by simp⟩

end Go.Proofs.YtcidccifnaecaaaDoor
