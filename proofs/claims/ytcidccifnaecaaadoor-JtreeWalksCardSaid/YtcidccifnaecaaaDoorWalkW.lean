/- jtree.Walk at the closure of JtreeWalks, walked. -/
import Derived.Test.YtcidccifnaecaaaDoorAll1W
import Derived.Test.YtcidccifnaecaaaDoorPushN
import Derived.WalkMore
namespace Go.Proofs.YtcidccifnaecaaaDoor
open Go.RowKit Go.Shelf
attribute [local go_sem] Oper.semAt_some

/-- What was got: the state of JtreeWalks's closure. -/
def gotJ (w0 : World) (g hn : Nat) (n : Int) : Jt := fun b p F W =>
  b = decide ((p.length : Int) < n) ∧ (p.length : Int) ≤ n ∧ Below w0.heap.size w0 W ∧ (∀ q ∈ p, Good w0 q) ∧ Blk W hn 3 #[.int .i64 n] ∧
    ∃ A cap, Blk W g 22 #[.slice A p.length cap] ∧ W.ownsRow w0.heap.size 24 5 (.slice A p.length cap) p.length (nodeCells p) ∧
      ∀ x, F x ↔ (x < w0.heap.size ∨ x = g ∨ x = hn ∨ (Value.slice A p.length cap).ownBlock = some x)
theorem gotJ_ok (w0 : World) (g hn : Nat) (n : Int) : JOk w0 (gotJ w0 g hn n) := by
  refine ⟨?_, ?_, ?_⟩
  · rintro b p F W ⟨_, _, hlow, _, hh, A, cap, hg, hown, hF⟩ k hk
    rcases (hF k).1 hk with h | rfl | rfl | h
    · exact Nat.lt_of_lt_of_le h hlow.size
    · exact hg.lt
    · exact hh.lt
    · exact (hown.lt k h).2
  · rintro b p F W W' ⟨h1, h2, hlow, hgd, hh, A, cap, hg, hown, hF⟩ hT
    have e : ∀ k, F k → k < W.heap.size → W'.heap[k]? = W.heap[k]? := fun k hk hlt => hT.block k hlt (fun hn => hn hk)
    refine ⟨h1, h2, ⟨hT.os.trans hlow.os, hT.tape.trans hlow.tape, hT.output.trans hlow.output, Nat.le_trans hlow.size hT.size, fun k hk => (e k ((hF k).2 (.inl hk)) (Nat.lt_of_lt_of_le hk hlow.size)).trans (hlow.block k hk)⟩, hgd,
      hh.keep (e _ ((hF _).2 (.inr (.inr (.inl rfl)))) hh.lt), A, cap, hg.keep (e _ ((hF _).2 (.inr (.inl rfl))) hg.lt), own_keep hown (fun k hk => e k ((hF k).2 (.inr (.inr (.inr hk)))) (hown.lt k hk).2), hF⟩
  · rintro b p F W ⟨_, _, hlow, _⟩
    exact hlow

/-- One call of the closure. -/
theorem got_push {w0 W : World} {g hn : Nat} {n : Int} {p : List (Tree × Value)} {F : Nat → Prop} {u : Tree} {A : Option Addr} {k c : Nat} (hg0 : w0.heap.size ≤ g) (hgh : hn ≠ g) (hJ : gotJ w0 g hn n true p F W) (hl : p.length < 1073741824) (hgood : Good w0 (u, .slice A k c)) :
    Calls Tryd.prog 32 #[.agg #[.int .i64 u.op, .string u.s, .int .i64 u.n, .slice A k c, .int .i64 u.line], .pointer (some ⟨g, 0, none⟩), .pointer (some ⟨hn, 0, none⟩)] W fun e W' =>
      ∃ b F', e = .returned (.bool b) ∧ gotJ w0 g hn n b (p ++ [(u, .slice A k c)]) F' W' ∧ Kpt F W W' F' := by
  obtain ⟨h1, h2, hlow, hgd, hh, A1, cap, hg, hown, hF⟩ := hJ
  have hlt : (p.length : Int) < n := by simpa using h1.symm
  refine (push_calls W w0.heap.size g hn u A k c A1 cap p n hg hh hown hgh (by omega) hlow.size).mono ?_
  rintro e W' ⟨rfl, ⟨A9, cap9, hg9, hown9, hnew⟩, hh9, hT⟩
  have hT2 : Turn F W W' := hT.mono (fun x _ hx => (hF x).2 (by rcases hx with rfl | hx; exact .inr (.inl rfl); exact .inr (.inr (.inr hx))))
  refine ⟨_, fun x => x < w0.heap.size ∨ x = g ∨ x = hn ∨ (Value.slice A9 (p ++ [(u, Value.slice A k c)]).length cap9).ownBlock = some x, rfl, ⟨?_, ?_, ?_, ?_, hh9, A9, cap9, hg9, hown9, fun _ => Iff.rfl⟩, hT2, ?_⟩
  · congr 1
    simp
  · rw [List.length_append, List.length_singleton]; omega
  · refine ⟨hT.os.trans hlow.os, hT.tape.trans hlow.tape, hT.output.trans hlow.output, Nat.le_trans hlow.size hT.size, fun x hx => (hT.block x (Nat.lt_of_lt_of_le hx hlow.size) ?_).trans (hlow.block x hx)⟩
    rintro (h | h)
    · omega
    · have := (hown.lt x h).1
      omega
  · intro q hq
    rcases List.mem_append.1 hq with h | h
    · exact hgd q h
    · obtain rfl : q = (u, .slice A k c) := by simpa using h
      exact hgood
  · intro x hx hn' hf
    rw [hF] at hn'
    rcases hf with h | h | h | h
    · exact hn' (.inl h)
    · exact hn' (.inr (.inl h))
    · exact hn' (.inr (.inr (.inl h)))
    · rcases hnew x h with h | h
      · exact hn' (.inr (.inr (.inr h)))
      · omega

theorem leaf31 {n : Nat} {R : Ending → World → Prop} {tmps : Array Value} {W : World} (h : ∀ v, R (.returned v) W) : LeavesInM Fence.wide n Tryd.prog Tryd.f31 tmps R [] .returning W :=
  ⟨_, results_none rfl _ _ _, h _⟩

/-- What Walk does. -/
def WalkPost (w0 w : World) (g hn : Nat) (n : Int) (t : Tree) (F : Nat → Prop) (e : Ending) (w' : World) : Prop :=
  (∃ v, e = .returned v) ∧ ∃ b q F', gotJ w0 g hn n b q F' w' ∧ Kpt F w w' F' ∧ (b = true → q.map Prod.fst = t.flat) ∧ q.map Prod.fst <+: t.flat

set_option maxRecDepth 100000 in
set_option maxHeartbeats 800000 in
theorem walk_calls (d : Nat) (w0 w : World) (g hn : Nat) (n : Int) (t : Tree) (sl : Value) (F : Nat → Prop) (hk : Kids w0 d t.l sl) (hok : t.ok) (hg0 : w0.heap.size ≤ g) (hgh : hn ≠ g) (hJ : gotJ w0 g hn n true [] F w) (hlen : t.flat.length ≤ 1073741824) :
    Calls Tryd.prog 31 #[.agg #[.int .i64 t.op, .string t.s, .int .i64 t.n, sl, .int .i64 t.line], .func (.func 32) #[] #[.pointer (some ⟨g, 0, none⟩), .pointer (some ⟨hn, 0, none⟩)]] w (WalkPost w0 w g hn n t F) := by
  obtain ⟨hl, A, c, rfl⟩ := hk.form
  have HK := Lib.hid hk
  have HOK := Lib.hid hok
  have HLEN := Lib.hid hlen
  have HJ := Lib.hid hJ
  clear hk hok hlen hJ hl
  refine (callsIn_wide (n := 5)).1 (callsIn_of_wp_marks Tryd.func31 rfl trivial (wpIn_wide.2 ?_) rfl)
  simp only [Tryd.ntmps31, List.size_toArray, List.length_cons, List.length_nil, Nat.reduceAdd, Nat.reduceSub, Array.replicate_succ, Array.replicate_zero, List.push_toArray, List.append_toArray, List.nil_append, List.cons_append]
  go_wp2
  go_step3
  go_wp2
  go_step3
  go_wp2_with fail
  refine (all_calls _ _ _ _ _ _ _ _).mono ?_
  rintro e wb ⟨rfl, hwb⟩
  have hTb : Turn (fun _ => False) w wb := by rw [← hwb]; exact (((Turn.refl _ _).alloc _).alloc _).alloc _
  have hszb : wb.heap.size = w.heap.size + 1 + 1 + 1 := by rw [← hwb]; simp
  have hbc : Blk5 wb (w.heap.size + 1 + 1) t.op t.s t.n (.slice A t.l.length c) t.line := by
    rw [← hwb]
    have := blk5_new ((w.alloc (.cells #[.int .i64 t.op, .string t.s, .int .i64 t.n, .slice A t.l.length c, .int .i64 t.line] 24)).alloc (.cells #[(.func (.func 32) #[] #[.pointer (some ⟨g, 0, none⟩), .pointer (some ⟨hn, 0, none⟩)])] 27)) t.op t.s t.n (.slice A t.l.length c) t.line
    simpa using this
  have hBw : Blk wb (w.heap.size + 1) 27 #[(.func (.func 32) #[] #[.pointer (some ⟨g, 0, none⟩), .pointer (some ⟨hn, 0, none⟩)])] := by
    rw [← hwb]
    have := (Blk.new (w.alloc (.cells #[.int .i64 t.op, .string t.s, .int .i64 t.n, .slice A t.l.length c, .int .i64 t.line] 24)) 27 #[(.func (.func 32) #[] #[.pointer (some ⟨g, 0, none⟩), .pointer (some ⟨hn, 0, none⟩)])]).alloc (.cells #[.int .i64 t.op, .string t.s, .int .i64 t.n, .slice A t.l.length c, .int .i64 t.line] 24)
    simpa using this
  clear hwb
  have hw2 : w.heap.size + 1 + 1 < wb.heap.size := by omega
  clear hszb
  go_wp2
  have hJb : gotJ w0 g hn n true [] F wb := (gotJ_ok w0 g hn n).keep HJ.out (hTb.mono (fun _ _ e => e.elim))
  have hfr : ∀ x, F x → x < w.heap.size := (gotJ_ok w0 g hn n).foot HJ.out
  refine wpIn_wide.1 (range_wide (n := 5) (gf := 87) (lb := #[.pointer (some ⟨w.heap.size + 1 + 1, 0, none⟩)]) rfl (enters_of Tryd.func87 (by kernel_rfl) rfl) ?_)
  intro fn' R hR'
  obtain ⟨wc, hwc⟩ : ∃ wc, (wb.alloc (.deferred (some []))).alloc (R .ready none) = wc := ⟨_, rfl⟩
  have hTc : Turn (fun _ => False) wb wc := by rw [← hwc]; exact ((Turn.refl _ _).alloc _).alloc _
  have hrec : wc.heap[wb.heap.size + 1]? = some (R .ready none) := by
    rw [← hwc]
    have := heap_alloc_new (wb.alloc (.deferred (some []))) (R .ready none)
    simpa using this
  have hdd : wc.heap[wb.heap.size]? = some (.deferred (some [])) := by
    rw [← hwc, Below.heap_alloc _ _ _ (by simp)]
    exact heap_alloc_new _ _
  rw [hwc]
  clear hwc
  have hIJ : inJ (gotJ w0 g hn n) (wb.heap.size + 1) wb.heap.size (w.heap.size + 1) (.func (.func 32) #[] #[.pointer (some ⟨g, 0, none⟩), .pointer (some ⟨hn, 0, none⟩)]) (.exit 0) 27 R true [] (fun x => F x ∨ x = wb.heap.size + 1 ∨ x = wb.heap.size ∨ x = w.heap.size + 1) wc :=
    ⟨F, (gotJ_ok w0 g hn n).keep hJb (hTc.mono (fun _ _ e => e.elim)), fun _ => Iff.rfl, fun h => by have := hfr _ h; omega, fun h => by have := hfr _ h; omega, fun h => by have := hfr _ h; omega, hrec, hdd, hBw.keep (hTc.block _ hBw.lt (fun h => h))⟩
  refine (all1_in d (5 - 1) (wb.heap.size + 1) (w.heap.size + 1 + 1) w0 _ (inJ_ok (gotJ_ok w0 g hn n) _ _ _ _ _ _ R) ?_ t _ [] _ wc HK.out HOK.out (hbc.keep hTc.none_below) ?_ hIJ (by simpa using HLEN.out)).mono ?_
  · -- a round
    intro m' p G X u' A3 k3 c3 hin hpl hgood
    obtain ⟨F0, hJ0, hG, n1, n2, n3, hrec0, hD0, hB0⟩ := hin
    rw [if_pos rfl] at hrec0
    have hgo := fun (b : Bool) (Wb W3 : World) (F0' : Nat → Prop) (Y : Obj) hD hB hWb hl hJ3 hK3 hX => @inJ_next w0 (gotJ w0 g hn n) (gotJ_ok w0 g hn n) (wb.heap.size + 1) wb.heap.size (w.heap.size + 1) (.func (.func 32) #[] #[.pointer (some ⟨g, 0, none⟩), .pointer (some ⟨hn, 0, none⟩)]) (.exit 0) 27 R (by omega) (by omega) (p ++ [(u', .slice A3 k3 c3)]) G F0 F0' X Wb W3 b Y hG n1 n2 n3 hD hB hWb hl hJ3 hK3 hX
    have HGO := Lib.hid hgo
    clear hgo
    refine (yield_of hR' (fun W' => ∃ F', inJ (gotJ w0 g hn n) (wb.heap.size + 1) wb.heap.size (w.heap.size + 1) (.func (.func 32) #[] #[.pointer (some ⟨g, 0, none⟩), .pointer (some ⟨hn, 0, none⟩)]) (.exit 0) 27 R true (p ++ [(u', .slice A3 k3 c3)]) F' W' ∧ Kpt G X W' F') (fun c W' => c = .exit 0 ∧ ∃ F', inJ (gotJ w0 g hn n) (wb.heap.size + 1) wb.heap.size (w.heap.size + 1) (.func (.func 32) #[] #[.pointer (some ⟨g, 0, none⟩), .pointer (some ⟨hn, 0, none⟩)]) (.exit 0) 27 R false (p ++ [(u', .slice A3 k3 c3)]) F' W' ∧ Kpt G X W' F') trivial hrec0 rfl ?_).mono ?_
    · clear hR'
      gi_wp2
      obtain ⟨Wb, hWb⟩ : ∃ Wb, (X.alloc (.cells #[.int .i64 u'.op, .string u'.s, .int .i64 u'.n, .slice A3 k3 c3, .int .i64 u'.line] 24)).putObj (wb.heap.size + 1) (R .busy none) = Wb := ⟨_, rfl⟩
      have hrl := (Array.getElem?_eq_some_iff.1 hrec0).1
      have hra : (X.alloc (.cells #[.int .i64 u'.op, .string u'.s, .int .i64 u'.n, .slice A3 k3 c3, .int .i64 u'.line] 24)).heap[wb.heap.size + 1]? = some (R .ready none) := (Below.heap_alloc _ _ _ hrl).trans hrec0
      have hTw : Turn (fun x => x = wb.heap.size + 1) X Wb := by
        rw [← hWb]
        exact ((Turn.refl _ X).alloc _).trans (turn_put _ _ _) (fun _ _ h => h)
      have hbz : Wb.heap[wb.heap.size + 1]? = some (R .busy none) := by
        rw [← hWb]
        exact World.putObj_heap_same (by simp; omega)
      have h5 : Blk5 Wb X.heap.size u'.op u'.s u'.n (.slice A3 k3 c3) u'.line := by
        have h1 := blk5_new X u'.op u'.s u'.n (.slice A3 k3 c3) u'.line
        have hne : X.heap.size ≠ wb.heap.size + 1 := by omega
        have e : ∀ i, Wb.cell? ⟨X.heap.size, i, none⟩ = (X.alloc (.cells #[.int .i64 u'.op, .string u'.s, .int .i64 u'.n, .slice A3 k3 c3, .int .i64 u'.line] 24)).cell? ⟨X.heap.size, i, none⟩ := fun i => by
          rw [← hWb]
          exact World.cell?_of_block (World.putObj_heap_other hne)
        exact ⟨(e _).trans h1.c0, (e _).trans h1.c1, (e _).trans h1.c2, (e _).trans h1.c3, (e _).trans h1.c4⟩
      have hDb : Wb.heap[wb.heap.size]? = some (.deferred (some [])) := (hTw.block _ (Array.getElem?_eq_some_iff.1 hD0).1 (by omega)).trans hD0
      have hBb : Blk Wb (w.heap.size + 1) 27 #[(.func (.func 32) #[] #[.pointer (some ⟨g, 0, none⟩), .pointer (some ⟨hn, 0, none⟩)])] := hB0.keep (hTw.block _ hB0.lt (by omega))
      have hJw : gotJ w0 g hn n true p F0 Wb := (gotJ_ok w0 g hn n).keep hJ0 (hTw.mono (fun x _ e h => by subst e; exact n1 h))
      have hlw : wb.heap.size + 1 < Wb.heap.size := (Array.getElem?_eq_some_iff.1 hbz).1
      refine ⟨hra, ?_⟩
      rw [hWb]
      obtain ⟨q0, q1, q2, q3, q4⟩ := h5
      have qB := hBb.cell 0
      have HBZ := Lib.hid hbz
      have HPU := Lib.hid (got_push hg0 hgh hJw hpl hgood)
      have HGF := Lib.hid (fun (b : Bool) W3 F0' hJ3 hK3 => HGO.out b Wb W3 F0' (if b = true then R .ready none else R .done (some (.exit 0))) hDb hBb hTw hlw hJ3 hK3 rfl)
      clear hWb hra hbz hTw hDb hBb hJw HGO
      gi_wp2
      refine ⟨trivial, fun hh => (by cases hh), (CallsIn.inRound _ (callsIn_wide.2 HPU.out)).mono ?_⟩
      rintro e W3 ⟨b, F0', rfl, hJ3, hK3⟩
      have hg3 := HGF.out b W3 F0' hJ3 hK3
      have hb3 : W3.heap[wb.heap.size + 1]? = some (R .busy none) := (hK3.turn.block _ hlw n1).trans HBZ.out
      have HG3 := Lib.hid hg3
      clear hg3 hJ3 hK3
      cases b with
      | false =>
        gi_wp2
        exact ⟨hb3, rfl, HG3.out⟩
      | true =>
        gi_wp2
        exact ⟨hb3, HG3.out⟩
    · rintro e W' (⟨rfl, F', h1, h2⟩ | ⟨rfl, _, _, F', h1, h2⟩)
      · exact ⟨true, F', rfl, h1, h2⟩
      · exact ⟨false, F', rfl, h1, h2⟩
  · rintro (h | h | h | h)
    · have := hfr _ h
      omega
    · omega
    · omega
    · omega
  · rintro e W5 ⟨hv, b, q2, F5, ⟨F0', hJ5, hG5, n1, n2, n3, hrec5, hD5, hB5⟩, hK5, hq1, hq2⟩
    have hTbc := hTb.trans hTc (fun _ _ h => h)
    have hKw : Kpt F w W5 F0' := by
      refine ⟨⟨hK5.turn.os.trans hTbc.os, hK5.turn.tape.trans hTbc.tape, hK5.turn.output.trans hTbc.output, Nat.le_trans hTbc.size hK5.turn.size, fun x hx hn => ?_⟩, fun x hx hn hf => ?_⟩
      · rw [hK5.turn.block x (Nat.lt_of_lt_of_le hx hTbc.size) (by rintro (h | h | h | h); exact hn h; omega; omega; omega), hTbc.block x hx (fun h => h)]
      · exact hK5.foot x (Nat.lt_of_lt_of_le hx hTbc.size) (by rintro (h | h | h | h); exact hn h; omega; omega; omega) ((hG5 x).2 (.inl hf))
    obtain ⟨W6, hW6⟩ : ∃ W6, W5.putObj (wb.heap.size + 1) (if b = true then R .exhausted none else R .exhausted (some (.exit 0))) = W6 := ⟨_, rfl⟩
    have hT6 : Turn (fun x => x = wb.heap.size + 1) W5 W6 := by rw [← hW6]; exact turn_put _ _ _
    have hJ6 : gotJ w0 g hn n b q2 F0' W6 := (gotJ_ok w0 g hn n).keep hJ5 (hT6.mono (fun x _ e h => by subst e; exact n1 h))
    have hK6 : Kpt F w W6 F0' := ⟨hKw.turn.trans hT6 (fun x hx e => by omega), hKw.foot⟩
    have hD6 : W6.heap[wb.heap.size]? = some (.deferred (some [])) := (hT6.block _ (Array.getElem?_eq_some_iff.1 hD5).1 (by omega)).trans hD5
    refine ⟨hv, hD5, ?_⟩
    have hone : ∀ r ∈ [wb.heap.size], r = wb.heap.size := fun r hr => by simpa using hr
    have hout : ∀ W7, Turn (fun k => k ∈ [wb.heap.size]) W6 W7 → ∀ v, WalkPost w0 w g hn n t F (.returned v) W7 := fun W7 hW7 v =>
      ⟨⟨_, rfl⟩, b, q2, F0', (gotJ_ok w0 g hn n).keep hJ6 (hW7.mono (fun x _ hx => by rw [hone x hx]; exact n2)), hK6.marks hW7 (fun r hr => by rw [hone r hr]; omega), hq1, hq2⟩
    have HLV : ∀ tmps : Array Value, LeavesInM Fence.wide 5 Tryd.prog Tryd.f31 tmps (WalkPost w0 w g hn n t F) (marks [wb.heap.size]) .returning W6 := fun tmps =>
      leaves_marks [wb.heap.size] W6 (fun r hr => by rw [hone r hr]; exact hD6) (by simp) fun W7 hW7 => leaf31 (hout W7 hW7)
    have HLV := Lib.hid HLV
    clear hout hone hJ6 hK6 hD6 hT6 hKw hTbc hK5 hB5 hD5 hG5 hJ5 hR'
    cases b with
    | true =>
      refine .inl ⟨hrec5, ?_⟩
      rw [if_pos rfl] at hW6
      rw [hW6]
      go_wp2
      exact HLV.out _
    | false =>
      refine .inr ⟨.exit 0, hrec5, ?_⟩
      rw [if_neg (by simp)] at hW6
      rw [hW6]
      refine wpIn_wide.2 ?_
      go_wp2
      exact HLV.out _

end Go.Proofs.YtcidccifnaecaaaDoor
