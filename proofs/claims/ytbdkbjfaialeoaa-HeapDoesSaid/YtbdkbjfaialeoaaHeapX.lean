/- The walks of package heap, more: Alloc, put, New, Own, Put. -/
import Derived.Test.YtbdkbjfaialeoaaHeapW
namespace Go.Proofs.Ytbdkbjfaialeoaa
open Go.RowKit

/-- What a call that may make an object leaves. -/
def Grew (w : World) (B hb : Nat) (F : Nat → Prop) (os' : List Ob) (w' : World) : Prop :=
  ∃ F', Hp w' B hb F' os' ∧ Turn F w w' ∧ ∀ k, F' k → F k ∨ w.heap.size ≤ k

theorem Grew.from_ {w w1 w' : World} {B hb : Nat} {F : Nat → Prop} {os' : List Ob} (h : Grew w1 B hb F os' w') (hT : Turn (fun _ => False) w w1) : Grew w B hb F os' w' := by
  obtain ⟨F', h1, h2, h3⟩ := h
  refine ⟨F', h1, (hT.mono (fun _ _ x => x.elim)).trans h2 (fun _ _ h => h), fun k hk => ?_⟩
  rcases h3 k hk with h | h
  · exact .inl h
  · exact .inr (Nat.le_trans hT.size h)

theorem adds_one (w w0 : World) (B hb ab c : Nat) (F : Nat → Prop) (os : List Ob) (o : Ox) (h : Hp w0 B hb F os) (hB : B ≤ w0.heap.size) (hT : Turn (fun _ => False) w0 w) (hab : w0.heap.size ≤ ab)
    (ha : Blk w ab 29 #[.int .i64 o.mark, .int .i64 o.proto, .int .i64 o.code, .int .i64 o.frame]) (hlen : os.length < 5000) :
    Calls Try.prog 28 #[.pointer (some ⟨hb, 0, none⟩), .slice (some ⟨ab, 0, none⟩) 1 c] w fun e w' =>
      e = .returned (.int .i64 os.length) ∧ Grew w0 B hb F (os ++ [Ob.fresh o]) w' := by
  have h2 := adds_calls w B hb ab c F os [o] (h.turn hT (fun _ _ x => x)) (Nat.le_trans hB hT.size) (fun hf => by have := (h.foot ab hf).2; omega) (by simpa [oxCells, Ox.cells] using ha) (by simp; omega)
  refine h2.mono ?_
  rintro e w' ⟨rfl, h3⟩
  refine ⟨by simp, ?_⟩
  exact Grew.from_ (w1 := w) (by simpa [Grew] using h3) hT

set_option maxHeartbeats 1000000 in
theorem alloc_ok (w : World) (B hb : Nat) (F : Nat → Prop) (os : List Ob) (o : Ox) (h : Hp w B hb F os) (hB : B ≤ w.heap.size) (hlen : os.length < 5000)
    (hp : o.proto = -1 ∨ 0 ≤ o.proto ∧ o.proto < os.length) :
    Calls Try.prog 13 #[.pointer (some ⟨hb, 0, none⟩), .agg #[.int .i64 o.mark, .int .i64 o.proto, .int .i64 o.code, .int .i64 o.frame]] w fun e w' =>
      e = .returned (.tuple #[.int .i64 os.length, .int .i64 0]) ∧ Grew w B hb F (os ++ [Ob.fresh o]) w' := by
  obtain ⟨A, cap, hc⟩ := h.cell
  have hlt : hb < w.heap.size := World.block_lt_of_cell? w _ hc
  have h5 : ((os.length : Int) == 5000) = false := by simp; omega
  have H := Lib.hid h
  clear h
  have HA : ∀ a b : Obj, Hid (Turn (fun _ => False) w ((w.alloc a).alloc b)) := fun a b => ((Turn.refl _ w).alloc _).alloc _
  have hbk : Hid (Blk ((w.alloc (.cells #[.int .i64 o.mark, .int .i64 o.proto, .int .i64 o.code, .int .i64 o.frame] 29)).alloc (.cells #[.int .i64 o.mark, .int .i64 o.proto, .int .i64 o.code, .int .i64 o.frame] 29)) (w.heap.size + 1) 29 #[.int .i64 o.mark, .int .i64 o.proto, .int .i64 o.code, .int .i64 o.frame]) := by
    have := Blk.new (w.alloc (.cells #[.int .i64 o.mark, .int .i64 o.proto, .int .i64 o.code, .int .i64 o.frame] 29)) 29 #[.int .i64 o.mark, .int .i64 o.proto, .int .i64 o.code, .int .i64 o.frame]
    rwa [World.size_alloc] at this
  rcases hp with hp | ⟨hp0, hp1⟩
  · have hpb : (o.proto != -1) = false := by rw [hp]; rfl
    have HPB := Lib.hid hp
    clear hp
    go_enter Try.func13, Try.ntmps13
    go_wp2_with (go_at_call 28; refine (adds_one _ w B hb (w.heap.size + 1) _ F os o H.out hB (HA _ _).out (by omega) hbk.out hlen).mono ?_; rintro e w' ⟨rfl, hg⟩; have HG := Lib.hid hg; clear hg)
    go_ret2
    exact ⟨rfl, HG.out⟩
  · have hpb : (o.proto != -1) = true := by rw [bne_iff_ne]; omega
    go_enter Try.func13, Try.ntmps13
    go_wp2_with (first
      | (go_at_call 30; refine (has_in _ hb os.length cap A o.proto (by rw [World.cell?_alloc_lt _ _ _ hlt]; exact hc) hp0 hp1).mono ?_; rintro e w' ⟨rfl, rfl⟩)
      | (go_at_call 28; refine (adds_one _ w B hb (w.heap.size + 1) _ F os o H.out hB (HA _ _).out (by omega) hbk.out hlen).mono ?_; rintro e w' ⟨rfl, hg⟩; have HG := Lib.hid hg; clear hg))
    go_ret2
    exact ⟨rfl, HG.out⟩

def ErrOnly (w : World) (n : Int) (e : Ending) (w' : World) : Prop := e = .returned (.tuple #[.int .i64 0, .int .i64 n]) ∧ Below w.heap.size w w'

set_option maxHeartbeats 1000000 in
theorem alloc_arg (w : World) (hb n cap : Nat) (A : Option Addr) (o : Ox) (hc : w.cell? ⟨hb, 0, none⟩ = some (.slice A n cap)) (hne : o.proto ≠ -1) (hp : o.proto < 0 ∨ n ≤ o.proto) :
    Calls Try.prog 13 #[.pointer (some ⟨hb, 0, none⟩), .agg #[.int .i64 o.mark, .int .i64 o.proto, .int .i64 o.code, .int .i64 o.frame]] w (ErrOnly w 2) := by
  have hlt : hb < w.heap.size := World.block_lt_of_cell? w _ hc
  have hpb : (o.proto != -1) = true := by rw [bne_iff_ne]; omega
  clear hne
  go_enter Try.func13, Try.ntmps13
  go_wp2_with (go_at_call 30; refine (has_out _ hb n cap A o.proto (by rw [World.cell?_alloc_lt _ _ _ hlt]; exact hc) hp).mono ?_; rintro e w' ⟨rfl, rfl⟩)
  go_ret2
  exact ⟨rfl, (Below.refl _ _).alloc (Nat.le_refl _) _⟩

set_option maxHeartbeats 1000000 in
theorem alloc_full (w : World) (hb cap : Nat) (A : Option Addr) (o : Ox) (hc : w.cell? ⟨hb, 0, none⟩ = some (.slice A (5000 : Nat) cap)) (hp : o.proto = -1 ∨ 0 ≤ o.proto ∧ o.proto < 5000) :
    Calls Try.prog 13 #[.pointer (some ⟨hb, 0, none⟩), .agg #[.int .i64 o.mark, .int .i64 o.proto, .int .i64 o.code, .int .i64 o.frame]] w (ErrOnly w 71) := by
  have hlt : hb < w.heap.size := World.block_lt_of_cell? w _ hc
  rcases hp with hp | ⟨hp0, hp1⟩
  · have hpb : (o.proto != -1) = false := by rw [hp]; rfl
    clear hp
    go_enter Try.func13, Try.ntmps13
    go_wp2
    go_ret2
    exact ⟨rfl, (Below.refl _ _).alloc (Nat.le_refl _) _⟩
  · have hpb : (o.proto != -1) = true := by rw [bne_iff_ne]; omega
    go_enter Try.func13, Try.ntmps13
    go_wp2_with (go_at_call 30; refine (has_in _ hb 5000 cap A o.proto (by rw [World.cell?_alloc_lt _ _ _ hlt]; exact hc) hp0 (by omega)).mono ?_; rintro e w' ⟨rfl, rfl⟩)
    go_ret2
    exact ⟨rfl, (Below.refl _ _).alloc (Nat.le_refl _) _⟩

set_option maxHeartbeats 1000000 in
theorem alloc_nil (w : World) (o : Ox) :
    Calls Try.prog 13 #[.pointer none, .agg #[.int .i64 o.mark, .int .i64 o.proto, .int .i64 o.code, .int .i64 o.frame]] w (ErrOnly w 1) := by
  go_enter Try.func13, Try.ntmps13
  go_wp2
  go_ret2
  exact ⟨rfl, (Below.refl _ _).alloc (Nat.le_refl _) _⟩

/-- The zero value of api.Val. -/
def zeroVal : Value := .agg #[.int .i64 0, .int .i64 0, .string ⟨#[]⟩]
theorem zero_val (w : World) : (zeroValue 33).run Try.prog w = .ok zeroVal w := by kernel_rfl

set_option maxHeartbeats 1000000 in
theorem own_out (w : World) (p : Int) (key : ByteArray) (q : Option Addr)
    (hhas : ∀ w1 : World, Below w.heap.size w w1 → Calls Try.prog 30 #[.pointer q, .int .i64 p] w1 fun e w' => e = .returned (.bool false) ∧ w1 = w') :
    Calls Try.prog 19 #[.pointer q, .int .i64 p, .string key] w fun e w' => e = .returned (.tuple #[zeroVal, .bool false]) ∧ Below w.heap.size w w' := by
  have H := Lib.hid hhas
  clear hhas
  have hal : ∀ o : Obj, Hid (Below w.heap.size w (w.alloc o)) := fun o => (Below.refl _ _).alloc (Nat.le_refl _) _
  go_enter Try.func19, Try.ntmps19
  go_wp2_with (go_at_call 30; refine (H.out _ (hal _).out).mono ?_; rintro e w' ⟨rfl, rfl⟩)
  exact bodyPost_ret (v := .tuple #[zeroVal, .bool false]) (by simp [results, Try.f19, go_sem, zeroVal]) rfl ⟨rfl, ((Below.refl _ _).alloc (Nat.le_refl _) _)⟩

/-- The way to an object's cells. -/
theorem HpAt.way {w : World} {B hb : Nat} {lv : Value} {Ls : List Lo} {os : List Ob} (h : HpAt w B hb lv Ls os) {p : Nat} {o : Ob} (ho : os[p]? = some o) :
    ∃ g cap L, lv = .slice (some ⟨g, 0, none⟩) os.length cap ∧ Ls[p]? = some L ∧ w.cell? ⟨hb, 0, none⟩ = some (.slice (some ⟨g, 0, none⟩) os.length cap) ∧ w.cell? ⟨g, p, none⟩ = some (.pointer (some ⟨L.ob, 0, none⟩)) ∧ ObjAt w B L o := by
  have hp : p < os.length := (List.getElem?_eq_some_iff.1 ho).1
  obtain ⟨g, cap, hv, _, _⟩ := h.row.form (by omega)
  have hpl : p < Ls.length := by rw [h.len]; exact hp
  refine ⟨g, cap, Ls[p], hv, List.getElem?_eq_getElem hpl, ?_, ?_, h.obj p _ o (List.getElem?_eq_getElem hpl) ho⟩
  · rw [h.blk.cell 0, ← hv]; rfl
  · have := h.row.cells (g := g) (by rw [hv]; rfl) p (Ls[p]).ptr (by simp [hpl])
    have hadd : (⟨g, 0, none⟩ : Addr).add p = ⟨g, p, none⟩ := by unfold Addr.add; split <;> simp_all
    rw [hadd] at this
    exact this

theorem Hp.way {w : World} {B hb : Nat} {F : Nat → Prop} {os : List Ob} (h : Hp w B hb F os) {p : Nat} {o : Ob} (ho : os[p]? = some o) :
    ∃ g cap L, w.cell? ⟨hb, 0, none⟩ = some (.slice (some ⟨g, 0, none⟩) os.length cap) ∧ w.cell? ⟨g, p, none⟩ = some (.pointer (some ⟨L.ob, 0, none⟩)) ∧ ObjAt w B L o := by
  obtain ⟨lv, Ls, h1, _⟩ := h
  obtain ⟨g, cap, L, _, _, h2⟩ := h1.way ho
  exact ⟨g, cap, L, h2⟩

/-- What is told of a value that may be there. -/
def told (v : Option Vl) : Value := .tuple #[(v.map Vl.val).getD zeroVal, .bool v.isSome]

set_option maxHeartbeats 1000000 in
theorem own_in (w : World) (B hb : Nat) (F : Nat → Prop) (os : List Ob) (p : Nat) (o : Ob) (key : ByteArray) (h : Hp w B hb F os) (ho : os[p]? = some o) (hk : key.size ≤ maxLen) :
    Calls Try.prog 19 #[.pointer (some ⟨hb, 0, none⟩), .int .i64 p, .string key] w fun e w' => e = .returned (told (o.vals key.data.toList)) ∧ Below w.heap.size w w' := by
  obtain ⟨g, cap, L, hc, hg, hO⟩ := h.way ho
  have hp : p < os.length := (List.getElem?_eq_some_iff.1 ho).1
  have hp1 : (p : Int) < os.length := by omega
  have hlt : hb < w.heap.size := World.block_lt_of_cell? w _ hc
  have hlg : g < w.heap.size := World.block_lt_of_cell? w _ hg
  have hlo : L.ob < w.heap.size := hO.blk.lt
  have hcm : w.cell? ⟨L.ob, 5, none⟩ = some (.map (some L.mb)) := by rw [hO.blk.cell]; rfl
  have hlk := (hO.map.keep (Below.heap_alloc w (.cells #[.int .i64 0, .int .i64 0, .string ⟨#[]⟩] 33) _ hO.map.lt)).look Try.underlying9 Try.underlying67 (zero_val _) hk
  clear hO h ho
  cases hv : o.vals key.data.toList with
  | none =>
    simp only [hv, Option.map_none, Option.getD_none, Option.isSome_none, zeroVal] at hlk
    clear hv
    go_enter Try.func19, Try.ntmps19
    go_wp2_with (go_at_call 30; refine (has_in _ hb os.length cap _ p (by rw [World.cell?_alloc_lt _ _ _ hlt]; exact hc) (by omega) hp1).mono ?_; rintro e w' ⟨rfl, rfl⟩)
    exact bodyPost_ret (v := told none) (by simp [results, Try.f19, go_sem, told, zeroVal]) rfl ⟨rfl, (((Below.refl _ _).alloc (Nat.le_refl _) _).alloc (by simp) _)⟩
  | some v =>
    simp only [hv, Option.map_some, Option.getD_some, Option.isSome_some, Vl.val] at hlk
    clear hv
    go_enter Try.func19, Try.ntmps19
    go_wp2_with (go_at_call 30; refine (has_in _ hb os.length cap _ p (by rw [World.cell?_alloc_lt _ _ _ hlt]; exact hc) (by omega) hp1).mono ?_; rintro e w' ⟨rfl, rfl⟩)
    exact bodyPost_ret (v := told (some v)) (by simp [results, Try.f19, go_sem, told, Vl.val]) rfl ⟨rfl, by
      have := (((Below.refl w.heap.size w).alloc (Nat.le_refl _) (.cells #[.int .i64 v.kind, .int .i64 v.n, .string v.s] 33)).alloc (by simp) (.cells #[.int .i64 v.kind, .int .i64 v.n, .string v.s] 33))
      exact this⟩

set_option maxHeartbeats 1000000 in
theorem obj_in (w : World) (B hb : Nat) (F : Nat → Prop) (os : List Ob) (p : Nat) (o : Ob) (h : Hp w B hb F os) (ho : os[p]? = some o) :
    Calls Try.prog 22 #[.pointer (some ⟨hb, 0, none⟩), .int .i64 p] w fun e w' =>
      e = .returned (.tuple #[.agg #[.int .i64 o.o.mark, .int .i64 o.o.proto, .int .i64 o.o.code, .int .i64 o.o.frame], .int .i64 0]) ∧ Below w.heap.size w w' := by
  obtain ⟨g, cap, L, hc, hg, hO⟩ := h.way ho
  have hp : p < os.length := (List.getElem?_eq_some_iff.1 ho).1
  have hp1 : (p : Int) < os.length := by omega
  have hlt : hb < w.heap.size := World.block_lt_of_cell? w _ hc
  have hlg : g < w.heap.size := World.block_lt_of_cell? w _ hg
  have hlo : L.ob < w.heap.size := hO.blk.lt
  have hc0 : w.cell? ⟨L.ob, 0, none⟩ = some (.int .i64 o.o.mark) := by rw [hO.blk.cell]; rfl
  have hc1 : w.cell? ⟨L.ob, 1, none⟩ = some (.int .i64 o.o.proto) := by rw [hO.blk.cell]; rfl
  have hc2 : w.cell? ⟨L.ob, 2, none⟩ = some (.int .i64 o.o.code) := by rw [hO.blk.cell]; rfl
  have hc3 : w.cell? ⟨L.ob, 3, none⟩ = some (.int .i64 o.o.frame) := by rw [hO.blk.cell]; rfl
  clear hO h ho
  go_enter Try.func22, Try.ntmps22
  go_wp2_with (go_at_call 30; refine (has_in _ hb os.length cap _ p (by rw [World.cell?_alloc_lt _ _ _ hlt]; exact hc) (by omega) hp1).mono ?_; rintro e w' ⟨rfl, rfl⟩)
  exact bodyPost_ret (v := .tuple #[.agg #[.int .i64 o.o.mark, .int .i64 o.o.proto, .int .i64 o.o.code, .int .i64 o.o.frame], .int .i64 0]) (by simp [results, Try.f22, go_sem]) rfl ⟨rfl, (Below.refl _ _).alloc (Nat.le_refl _) _⟩

set_option maxHeartbeats 1000000 in
theorem obj_out (w : World) (hb n cap : Nat) (A : Option Addr) (p : Int) (hc : w.cell? ⟨hb, 0, none⟩ = some (.slice A n cap)) (hp : p < 0 ∨ n ≤ p) :
    Calls Try.prog 22 #[.pointer (some ⟨hb, 0, none⟩), .int .i64 p] w fun e w' =>
      e = .returned (.tuple #[.agg #[.int .i64 0, .int .i64 0, .int .i64 0, .int .i64 0], .int .i64 70]) ∧ Below w.heap.size w w' := by
  have hlt : hb < w.heap.size := World.block_lt_of_cell? w _ hc
  have HP := Lib.hid hp
  clear hp
  go_enter Try.func22, Try.ntmps22
  go_wp2_with (go_at_call 30; refine (has_out _ hb n cap _ p (by rw [World.cell?_alloc_lt _ _ _ hlt]; exact hc) HP.out).mono ?_; rintro e w' ⟨rfl, rfl⟩)
  exact bodyPost_ret (v := .tuple #[.agg #[.int .i64 0, .int .i64 0, .int .i64 0, .int .i64 0], .int .i64 70]) (by simp [results, Try.f22, go_sem]) rfl ⟨rfl, (Below.refl _ _).alloc (Nat.le_refl _) _⟩

set_option maxHeartbeats 1000000 in
theorem obj_nil (w : World) (p : Int) :
    Calls Try.prog 22 #[.pointer none, .int .i64 p] w fun e w' =>
      e = .returned (.tuple #[.agg #[.int .i64 0, .int .i64 0, .int .i64 0, .int .i64 0], .int .i64 1]) ∧ Below w.heap.size w w' := by
  go_enter Try.func22, Try.ntmps22
  go_wp2
  exact bodyPost_ret (v := .tuple #[.agg #[.int .i64 0, .int .i64 0, .int .i64 0, .int .i64 0], .int .i64 1]) (by simp [results, Try.f22, go_sem]) rfl ⟨rfl, (Below.refl _ _).alloc (Nat.le_refl _) _⟩

end Go.Proofs.Ytbdkbjfaialeoaa
