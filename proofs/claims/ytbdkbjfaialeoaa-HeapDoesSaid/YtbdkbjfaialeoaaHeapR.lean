/- Put of package heap. -/
import Derived.Test.YtbdkbjfaialeoaaHeapQ
import Derived.Test.YtbdkbjfaialeoaaValR
import Derived.StillTailTactics
import Derived.Lib.QuietBelow
namespace Go.Proofs.Ytbdkbjfaialeoaa
open Go.RowKit Go.Sort

set_option maxHeartbeats 1000000 in
theorem hput_nil (w : World) (p : Int) (key : ByteArray) (k n : Int) (s : ByteArray) :
    Calls Try.prog 16 #[.pointer none, .int .i64 p, .string key, .agg #[.int .i64 k, .int .i64 n, .string s]] w fun e w' => e = .returned (.int .i64 1) ∧ Below w.heap.size w w' := by
  go_enter Try.func16, Try.ntmps16
  go_wp2
  go_ret
  exact ⟨rfl, (Below.refl _ _).alloc (Nat.le_refl _) _⟩

set_option maxHeartbeats 1000000 in
theorem hput_place (w : World) (hb len cap : Nat) (A : Option Addr) (p : Int) (key : ByteArray) (k n : Int) (s : ByteArray) (hc : w.cell? ⟨hb, 0, none⟩ = some (.slice A len cap)) (hp : p < 0 ∨ len ≤ p) :
    Calls Try.prog 16 #[.pointer (some ⟨hb, 0, none⟩), .int .i64 p, .string key, .agg #[.int .i64 k, .int .i64 n, .string s]] w fun e w' => e = .returned (.int .i64 70) ∧ Below w.heap.size w w' := by
  have hlt : hb < w.heap.size := World.block_lt_of_cell? w _ hc
  have HP := Lib.hid hp
  clear hp
  go_enter Try.func16, Try.ntmps16
  go_wp2_with (go_at_call 30; refine (has_out _ hb len cap _ p (by rw [World.cell?_alloc_lt _ _ _ hlt]; exact hc) HP.out).mono ?_; rintro e w' ⟨rfl, rfl⟩)
  go_ret
  exact ⟨rfl, (Below.refl _ _).alloc (Nat.le_refl _) _⟩

theorem vright_is (w : World) (k n : Int) (s : ByteArray) (b : Bool) (h : Hid (right k n s = b)) :
    Calls Try.prog 32 #[.agg #[.int .i64 k, .int .i64 n, .string s]] w fun e w' => e = .returned (.bool b) ∧ Below w.heap.size w w' := by
  have := vright_calls w k n s
  rwa [h.out] at this

set_option maxHeartbeats 1000000 in
theorem hput_arg (w : World) (hb len cap : Nat) (A : Option Addr) (p : Int) (key : ByteArray) (k n : Int) (s : ByteArray) (hc : w.cell? ⟨hb, 0, none⟩ = some (.slice A len cap)) (h0 : 0 ≤ p) (h1 : p < len)
    (hr : right k n s = false) :
    Calls Try.prog 16 #[.pointer (some ⟨hb, 0, none⟩), .int .i64 p, .string key, .agg #[.int .i64 k, .int .i64 n, .string s]] w fun e w' => e = .returned (.int .i64 2) ∧ Below w.heap.size w w' := by
  have hlt : hb < w.heap.size := World.block_lt_of_cell? w _ hc
  have HR := Lib.hid hr
  clear hr
  obtain ⟨w1, hw1⟩ : ∃ w1, w.alloc (.cells #[.int .i64 k, .int .i64 n, .string s] 33) = w1 := ⟨_, rfl⟩
  have hx : Blk w1 w.heap.size 33 #[.int .i64 k, .int .i64 n, .string s] := by rw [← hw1]; exact Blk.new _ _ _
  have hx0 : w1.cell? ⟨w.heap.size, 0, none⟩ = some (.int .i64 k) := hx.cell 0
  have hx1 : w1.cell? ⟨w.heap.size, 1, none⟩ = some (.int .i64 n) := hx.cell 1
  have hx2 : w1.cell? ⟨w.heap.size, 2, none⟩ = some (.string s) := hx.cell 2
  have hc1 : w1.cell? ⟨hb, 0, none⟩ = some (.slice A len cap) := by rw [← hw1, World.cell?_alloc_lt _ _ _ hlt]; exact hc
  have hB1 : Below w.heap.size w w1 := by rw [← hw1]; exact (Below.refl _ _).alloc (Nat.le_refl _) _
  have hs1 : w.heap.size < w1.heap.size := hx.lt
  have HW := Lib.hid hw1
  clear hw1
  go_enter Try.func16, Try.ntmps16
  go_wp2_with fail
  rw [HW.out]
  refine (has_in _ hb len cap _ p hc1 h0 h1).mono ?_
  rintro e w' ⟨rfl, rfl⟩
  go_wp2_with fail
  have g0 := cell_regrown hx0
  have g1 := cell_regrown hx1
  have g2 := cell_regrown hx2
  have g3 := cell_regrown hc1
  refine wp_region_quiet_below (by kernel_rfl) (by kernel_rfl) ?_
  repeat (first
    | go_big_quiet_skip
    | quiet_step ((go_at_call 32; exact Calls.regrown_of (vright_is _ k n s false HR))))
  refine wpQuiet_nil ?_
  intro _ hw'
  obtain ⟨⟨dq, osq⟩, rfl⟩ := hw'
  go_wp2
  go_ret
  exact ⟨rfl, hB1.trans ((below_regrown w1 dq osq).mono (by omega))⟩

set_option maxHeartbeats 1000000 in
theorem hput_ref (w : World) (hb len cap : Nat) (A : Option Addr) (p : Int) (key : ByteArray) (k n : Int) (s : ByteArray) (hc : w.cell? ⟨hb, 0, none⟩ = some (.slice A len cap)) (h0 : 0 ≤ p) (h1 : p < len)
    (hr : right k n s = true) (hk5 : k = 5) (hn : n < 0 ∨ len ≤ n) :
    Calls Try.prog 16 #[.pointer (some ⟨hb, 0, none⟩), .int .i64 p, .string key, .agg #[.int .i64 k, .int .i64 n, .string s]] w fun e w' => e = .returned (.int .i64 2) ∧ Below w.heap.size w w' := by
  subst hk5
  have hlt : hb < w.heap.size := World.block_lt_of_cell? w _ hc
  have HR := Lib.hid hr
  clear hr
  obtain ⟨w1, hw1⟩ : ∃ w1, w.alloc (.cells #[.int .i64 5, .int .i64 n, .string s] 33) = w1 := ⟨_, rfl⟩
  have hx : Blk w1 w.heap.size 33 #[.int .i64 5, .int .i64 n, .string s] := by rw [← hw1]; exact Blk.new _ _ _
  have hx0 : w1.cell? ⟨w.heap.size, 0, none⟩ = some (.int .i64 5) := hx.cell 0
  have hx1 : w1.cell? ⟨w.heap.size, 1, none⟩ = some (.int .i64 n) := hx.cell 1
  have hx2 : w1.cell? ⟨w.heap.size, 2, none⟩ = some (.string s) := hx.cell 2
  have hc1 : w1.cell? ⟨hb, 0, none⟩ = some (.slice A len cap) := by rw [← hw1, World.cell?_alloc_lt _ _ _ hlt]; exact hc
  have hB1 : Below w.heap.size w w1 := by rw [← hw1]; exact (Below.refl _ _).alloc (Nat.le_refl _) _
  have hs1 : w.heap.size < w1.heap.size := hx.lt
  have HW := Lib.hid hw1
  clear hw1
  rcases hn with hn | hn
  · go_enter Try.func16, Try.ntmps16
    go_wp2_with fail
    rw [HW.out]
    refine (has_in _ hb len cap _ p hc1 h0 h1).mono ?_
    rintro e w' ⟨rfl, rfl⟩
    go_wp2_with fail
    have g0 := cell_regrown hx0
    have g1 := cell_regrown hx1
    have g2 := cell_regrown hx2
    have g3 := cell_regrown hc1
    refine wp_region_quiet_below (by kernel_rfl) (by kernel_rfl) ?_
    repeat (first
      | go_big_quiet_skip
      | quiet_step ((go_at_call 32; exact Calls.regrown_of (vright_is _ 5 n s true HR))))
    refine wpQuiet_nil ?_
    intro _ hw'
    obtain ⟨⟨dq, osq⟩, rfl⟩ := hw'
    go_wp2
    go_ret
    exact ⟨rfl, hB1.trans ((below_regrown w1 dq osq).mono (by omega))⟩
  · have hn0 : 0 ≤ n := by omega
    go_enter Try.func16, Try.ntmps16
    go_wp2_with fail
    rw [HW.out]
    refine (has_in _ hb len cap _ p hc1 h0 h1).mono ?_
    rintro e w' ⟨rfl, rfl⟩
    go_wp2_with fail
    have g0 := cell_regrown hx0
    have g1 := cell_regrown hx1
    have g2 := cell_regrown hx2
    have g3 := cell_regrown hc1
    refine wp_region_quiet_below (by kernel_rfl) (by kernel_rfl) ?_
    repeat (first
      | go_big_quiet_skip
      | quiet_step ((go_at_call 32; exact Calls.regrown_of (vright_is _ 5 n s true HR))))
    refine wpQuiet_nil ?_
    intro _ hw'
    obtain ⟨⟨dq, osq⟩, rfl⟩ := hw'
    go_wp2
    go_ret
    exact ⟨rfl, hB1.trans ((below_regrown w1 dq osq).mono (by omega))⟩

set_option maxHeartbeats 1000000 in
theorem hput_ok (w : World) (B hb : Nat) (F : Nat → Prop) (os : List Ob) (p : Nat) (o : Ob) (key : ByteArray) (k n : Int) (s : ByteArray) (h : Hp w B hb F os) (hB : B ≤ w.heap.size) (ho : os[p]? = some o)
    (hr : right k n s = true) (hkey : key.size ≤ maxLen) (hn : o.keys.length ≤ 100000) (h5 : (k == 5) = false) :
    Calls Try.prog 16 #[.pointer (some ⟨hb, 0, none⟩), .int .i64 p, .string key, .agg #[.int .i64 k, .int .i64 n, .string s]] w fun e w' =>
      e = .returned (.int .i64 0) ∧ Grew w B hb F (os.set p (o.put key ⟨k, n, s⟩)) w' := by
  obtain ⟨lv, Ls, hat, hfoot⟩ := h
  obtain ⟨g, cap, L, hlv, hL, hc, hg, hO⟩ := hat.way ho
  have hp : p < os.length := (List.getElem?_eq_some_iff.1 ho).1
  have h0 : (0 : Int) ≤ p := by omega
  have h1 : (p : Int) < os.length := by omega
  have hlt : hb < w.heap.size := World.block_lt_of_cell? w _ hc
  have hlg : g < w.heap.size := World.block_lt_of_cell? w _ hg
  have HR := Lib.hid hr
  clear hr
  obtain ⟨w1, hw1⟩ : ∃ w1, w.alloc (.cells #[.int .i64 k, .int .i64 n, .string s] 33) = w1 := ⟨_, rfl⟩
  have hx : Blk w1 w.heap.size 33 #[.int .i64 k, .int .i64 n, .string s] := by rw [← hw1]; exact Blk.new _ _ _
  have hx0 : w1.cell? ⟨w.heap.size, 0, none⟩ = some (.int .i64 k) := hx.cell 0
  have hx1 : w1.cell? ⟨w.heap.size, 1, none⟩ = some (.int .i64 n) := hx.cell 1
  have hx2 : w1.cell? ⟨w.heap.size, 2, none⟩ = some (.string s) := hx.cell 2
  have hc1 : w1.cell? ⟨hb, 0, none⟩ = some (.slice (some ⟨g, 0, none⟩) os.length cap) := by rw [← hw1, World.cell?_alloc_lt _ _ _ hlt]; exact hc
  have hg1 : w1.cell? ⟨g, p, none⟩ = some (.pointer (some ⟨L.ob, 0, none⟩)) := by rw [← hw1, World.cell?_alloc_lt _ _ _ hlg]; exact hg
  have hB1 : Below w.heap.size w w1 := by rw [← hw1]; exact (Below.refl _ _).alloc (Nat.le_refl _) _
  have hs1 : w.heap.size < w1.heap.size := hx.lt
  have HW := Lib.hid hw1
  have HL := Lib.hid hL
  have HV := Lib.hid hlv
  have HOs := Lib.hid ho
  have HF := Lib.hid hfoot
  clear hw1 hL hlv ho hfoot
  go_enter Try.func16, Try.ntmps16
  go_wp2_with fail
  rw [HW.out]
  refine (has_in _ hb os.length cap _ p hc1 h0 h1).mono ?_
  rintro e w' ⟨rfl, rfl⟩
  go_wp2_with fail
  have g0 := cell_regrown hx0
  have g1 := cell_regrown hx1
  have g2 := cell_regrown hx2
  have g3 := cell_regrown hc1
  refine wp_region_quiet_below (by kernel_rfl) (by kernel_rfl) ?_
  repeat (first
    | go_big_quiet_skip
    | quiet_step ((go_at_call 32; exact Calls.regrown_of (vright_is _ k n s true HR))))
  refine wpQuiet_nil ?_
  intro _ hw'
  obtain ⟨⟨dq, osq⟩, rfl⟩ := hw'
  have hW1 := below_regrown w1 dq osq
  dsimp only
  clear g0 g1 g2 g3
  obtain ⟨W, hWW⟩ : ∃ W, grow (redrawn w1 dq) osq = W := ⟨_, rfl⟩
  rw [hWW] at hW1 ⊢
  clear hWW
  have k0 : W.cell? ⟨w.heap.size, 0, none⟩ = some (.int .i64 k) := (hW1.cell hs1).trans hx0
  have k1 : W.cell? ⟨w.heap.size, 1, none⟩ = some (.int .i64 n) := (hW1.cell hs1).trans hx1
  have k2 : W.cell? ⟨w.heap.size, 2, none⟩ = some (.string s) := (hW1.cell hs1).trans hx2
  have k3 : W.cell? ⟨hb, 0, none⟩ = some (.slice (some ⟨g, 0, none⟩) os.length cap) := (hW1.cell (Nat.lt_of_lt_of_le hlt hB1.size)).trans hc1
  have k4 : W.cell? ⟨g, p, none⟩ = some (.pointer (some ⟨L.ob, 0, none⟩)) := (hW1.cell (Nat.lt_of_lt_of_le hlg hB1.size)).trans hg1
  have hB2 : Below w.heap.size w W := hB1.trans (hW1.mono (by omega))
  clear hx0 hx1 hx2 hc1 hg1 hW1 hx hc hg
  go_wp2_with fail
  go_still_tail 9, (by kernel_rfl)
  change wpList _ _ _ _ _ W.drew
  have hB3 : Below w.heap.size w W.drew := hB2.drew
  generalize W.drew = W3 at hB3 ⊢
  go_wp2_with fail
  have hat3 : HpAt W3 B hb lv Ls os := hat.keep (fun j hj => hB3.block j (hat.foot j hj).2)
  refine (put_calls W3 B L o key ⟨k, n, s⟩ (hat3.obj p L o HL.out HOs.out) (Nat.le_trans hB hB3.size) hkey hn).mono ?_
  intro e w' hP
  have hG := Hp.upd hat3 HF.out HL.out HOs.out hP
  obtain ⟨rfl, _⟩ := hP
  have HG := Lib.hid hG
  clear hG hat3
  go_wp2
  go_ret
  exact ⟨rfl, Grew.from_ HG.out (Turn.of_below hB3)⟩

set_option maxHeartbeats 1000000 in
theorem hput_okref (w : World) (B hb : Nat) (F : Nat → Prop) (os : List Ob) (p : Nat) (o : Ob) (key : ByteArray) (k n : Int) (s : ByteArray) (h : Hp w B hb F os) (hB : B ≤ w.heap.size) (ho : os[p]? = some o)
    (hr : right k n s = true) (hkey : key.size ≤ maxLen) (hn : o.keys.length ≤ 100000) (hk5 : k = 5) (hn0 : 0 ≤ n) (hn1 : n < os.length) :
    Calls Try.prog 16 #[.pointer (some ⟨hb, 0, none⟩), .int .i64 p, .string key, .agg #[.int .i64 k, .int .i64 n, .string s]] w fun e w' =>
      e = .returned (.int .i64 0) ∧ Grew w B hb F (os.set p (o.put key ⟨k, n, s⟩)) w' := by
  subst hk5
  obtain ⟨lv, Ls, hat, hfoot⟩ := h
  obtain ⟨g, cap, L, hlv, hL, hc, hg, hO⟩ := hat.way ho
  have hp : p < os.length := (List.getElem?_eq_some_iff.1 ho).1
  have h0 : (0 : Int) ≤ p := by omega
  have h1 : (p : Int) < os.length := by omega
  have hlt : hb < w.heap.size := World.block_lt_of_cell? w _ hc
  have hlg : g < w.heap.size := World.block_lt_of_cell? w _ hg
  have HR := Lib.hid hr
  clear hr
  obtain ⟨w1, hw1⟩ : ∃ w1, w.alloc (.cells #[.int .i64 5, .int .i64 n, .string s] 33) = w1 := ⟨_, rfl⟩
  have hx : Blk w1 w.heap.size 33 #[.int .i64 5, .int .i64 n, .string s] := by rw [← hw1]; exact Blk.new _ _ _
  have hx0 : w1.cell? ⟨w.heap.size, 0, none⟩ = some (.int .i64 5) := hx.cell 0
  have hx1 : w1.cell? ⟨w.heap.size, 1, none⟩ = some (.int .i64 n) := hx.cell 1
  have hx2 : w1.cell? ⟨w.heap.size, 2, none⟩ = some (.string s) := hx.cell 2
  have hc1 : w1.cell? ⟨hb, 0, none⟩ = some (.slice (some ⟨g, 0, none⟩) os.length cap) := by rw [← hw1, World.cell?_alloc_lt _ _ _ hlt]; exact hc
  have hg1 : w1.cell? ⟨g, p, none⟩ = some (.pointer (some ⟨L.ob, 0, none⟩)) := by rw [← hw1, World.cell?_alloc_lt _ _ _ hlg]; exact hg
  have hB1 : Below w.heap.size w w1 := by rw [← hw1]; exact (Below.refl _ _).alloc (Nat.le_refl _) _
  have hs1 : w.heap.size < w1.heap.size := hx.lt
  have HW := Lib.hid hw1
  have HL := Lib.hid hL
  have HV := Lib.hid hlv
  have HOs := Lib.hid ho
  have HF := Lib.hid hfoot
  clear hw1 hL hlv ho hfoot
  go_enter Try.func16, Try.ntmps16
  go_wp2_with fail
  rw [HW.out]
  refine (has_in _ hb os.length cap _ p hc1 h0 h1).mono ?_
  rintro e w' ⟨rfl, rfl⟩
  go_wp2_with fail
  have g0 := cell_regrown hx0
  have g1 := cell_regrown hx1
  have g2 := cell_regrown hx2
  have g3 := cell_regrown hc1
  refine wp_region_quiet_below (by kernel_rfl) (by kernel_rfl) ?_
  repeat (first
    | go_big_quiet_skip
    | quiet_step ((go_at_call 32; exact Calls.regrown_of (vright_is _ 5 n s true HR))))
  refine wpQuiet_nil ?_
  intro _ hw'
  obtain ⟨⟨dq, osq⟩, rfl⟩ := hw'
  have hW1 := below_regrown w1 dq osq
  dsimp only
  clear g0 g1 g2 g3
  obtain ⟨W, hWW⟩ : ∃ W, grow (redrawn w1 dq) osq = W := ⟨_, rfl⟩
  rw [hWW] at hW1 ⊢
  clear hWW
  have k0 : W.cell? ⟨w.heap.size, 0, none⟩ = some (.int .i64 5) := (hW1.cell hs1).trans hx0
  have k1 : W.cell? ⟨w.heap.size, 1, none⟩ = some (.int .i64 n) := (hW1.cell hs1).trans hx1
  have k2 : W.cell? ⟨w.heap.size, 2, none⟩ = some (.string s) := (hW1.cell hs1).trans hx2
  have k3 : W.cell? ⟨hb, 0, none⟩ = some (.slice (some ⟨g, 0, none⟩) os.length cap) := (hW1.cell (Nat.lt_of_lt_of_le hlt hB1.size)).trans hc1
  have k4 : W.cell? ⟨g, p, none⟩ = some (.pointer (some ⟨L.ob, 0, none⟩)) := (hW1.cell (Nat.lt_of_lt_of_le hlg hB1.size)).trans hg1
  have hB2 : Below w.heap.size w W := hB1.trans (hW1.mono (by omega))
  clear hx0 hx1 hx2 hc1 hg1 hW1 hx hc hg
  go_wp2_with fail
  go_still_tail 9, (by kernel_rfl)
  change wpList _ _ _ _ _ W.drew
  have hB3 : Below w.heap.size w W.drew := hB2.drew
  generalize W.drew = W3 at hB3 ⊢
  go_wp2_with fail
  have hat3 : HpAt W3 B hb lv Ls os := hat.keep (fun j hj => hB3.block j (hat.foot j hj).2)
  refine (put_calls W3 B L o key ⟨5, n, s⟩ (hat3.obj p L o HL.out HOs.out) (Nat.le_trans hB hB3.size) hkey hn).mono ?_
  intro e w' hP
  have hG := Hp.upd hat3 HF.out HL.out HOs.out hP
  obtain ⟨rfl, _⟩ := hP
  have HG := Lib.hid hG
  clear hG hat3
  go_wp2
  go_ret
  exact ⟨rfl, Grew.from_ HG.out (Turn.of_below hB3)⟩

end Go.Proofs.Ytbdkbjfaialeoaa
