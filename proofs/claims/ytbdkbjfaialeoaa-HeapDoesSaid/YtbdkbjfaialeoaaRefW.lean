/- The document's heap: Alloc, New, walked. -/
import Derived.Test.YtbdkbjfaialeoaaRefP
import Derived.Test.YtbdkbjfaialeoaaRefG
import Derived.Deep.AppendLies
namespace Go.Proofs.Ytbdkbjfaialeoaa
open Go.RowKit Go.Sort

theorem info_thing : (Try.prog.info? 74).map (fun i => (i.zero, i.size, i.bytes)) = some (some (.agg #[.int .i64 0, .int .i64 0, .int .i64 0, .int .i64 0, .slice none 0 0, .slice none 0 0]), 6, 80) := by kernel_rfl
theorem info_val : (Try.prog.info? 33).map (fun i => (i.zero, i.size, i.bytes)) = some (some (.agg #[.int .i64 0, .int .i64 0, .string ⟨#[]⟩]), 3, 32) := by kernel_rfl

theorem alloc2_last (w : World) (a b : Obj) : ((w.alloc a).alloc b).heap[w.heap.size + 1]? = some b := by
  have := heap_alloc_new (w.alloc a) b
  simpa using this
theorem rblk {w w0 w1 : World} {B rb : Nat} {lv : Value} {Ls : List Ro} {os : List Ob} (h : RAt w B rb lv Ls os) (hT : Turn (fun _ => False) w w0) (hg : w0.grownBy w1 lv.ownBlock) : Blk w1 rb 56 #[lv] := by
  refine (h.blk.turn hT (fun x => x)).grown hg (fun e => ?_)
  obtain ⟨c1, hc1⟩ := own_blk h.row e.symm
  exact absurd (h.blk.eq hc1).1 (by decide)

set_option maxHeartbeats 2000000 in
theorem ralloc_ok (w : World) (B rb : Nat) (F : Nat → Prop) (os : List Ob) (o : Ox) (h : RHp w B rb F os) (hB : B ≤ w.heap.size) (hlen : os.length < 5000) (hp : o.proto = -1 ∨ 0 ≤ o.proto ∧ o.proto < os.length) :
    Calls Try.prog 35 #[.pointer (some ⟨rb, 0, none⟩), .agg #[.int .i64 o.mark, .int .i64 o.proto, .int .i64 o.code, .int .i64 o.frame]] w fun e w' =>
      e = .returned (.tuple #[.int .i64 os.length, .int .i64 0]) ∧ RGrew w B rb F (os ++ [Ob.fresh o]) w' := by
  obtain ⟨i0, hi0, hz0, hz1, hz2⟩ := info_parts info_thing
  obtain ⟨lv, Ls, hat, hfoot⟩ := h
  have HF := Lib.hid hfoot
  have HAT := Lib.hid hat
  obtain ⟨A, cap, hlv⟩ := own_slice hat.row
  have hc : w.cell? ⟨rb, 0, none⟩ = some lv := by rw [hat.blk.cell 0]; rfl
  rw [hlv] at hc
  have HLV := Lib.hid hlv
  have HR : Hid (w.ownsRow B 74 6 (.slice A os.length cap) os.length (rowCells Ls os)) := by rw [← hlv]; exact HAT.out.row
  have hlt := hat.blk.lt
  have hlt1 : rb < w.heap.size + 1 := by omega
  have h5 : decide (5000 ≤ os.length) = false := by simp; omega
  have h5' : decide ((5000 : Int) ≤ (os.length : Int)) = false := by simp; omega
  clear hat hfoot hlv
  have hcw : ∀ X : Obj, (w.alloc X).cell? ⟨rb, 0, none⟩ = some (.slice A os.length cap) := fun X => by rw [World.cell?_alloc_lt _ _ _ hlt]; exact hc
  have HCW := Lib.hid hcw
  clear hcw
  have bb : ∀ X : Obj, Blk (w.alloc X) rb 56 #[lv] := fun X => HAT.out.blk.alloc X
  have hfz : w.frozen? ⟨rb, 0, none⟩ = false := HAT.out.blk.frozen 0
  clear bb
  rcases hp with hp | ⟨hp0, hp1⟩
  · have hpb : (o.proto != -1) = false := by rw [hp]; rfl
    have hpn : o.proto < 0 := by omega
    have HPN := Lib.hid hpn
    clear hp hpn
    go_enter Try.func35, Try.ntmps35
    go_wp2_with (go_at_call 39; refine (ris_out _ rb os.length cap A o.proto (HCW.out _) (.inl HPN.out)).mono ?_; rintro e w' ⟨rfl, rfl⟩)
    go_region_law ((refine step_append_lies _ (by rfl) _ _ _ (by rfl) B 74 i0 _ 6 80 Try.underlying54 hi0 hz0 hz1 hz2 rfl (by omega) (.slice A os.length cap) _ (rowCells Ls os) (by rfl) (by exact ((HR.out.alloc _).alloc _)) ⟨w.heap.size + 1, 0, none⟩ 1 1 [.int .i64 o.mark, .int .i64 o.proto, .int .i64 o.code, .int .i64 o.frame, .slice none 0 0, .slice none 0 0] (by rfl) (by rfl) (World.news_of_block (cs := #[.int .i64 o.mark, .int .i64 o.proto, .int .i64 o.code, .int .i64 o.frame, .slice none 0 0, .slice none 0 0]) (t := 74) (fr := (0, 0)) (by exact alloc2_last w _ _)) (by simp [Value.oneCell']) (by omega) (by simp only [maxLen]; omega) (by omega) (by simp; omega) (w.heap.size + 1 + 1) (by simp) ?_; intro g cap1 w1 hown1 hgrow1 hat1 hlt1; have hc5 : w1.cell? ⟨rb, 0, none⟩ = some lv := (rblk HAT.out ((((Turn.refl _ w).alloc _).alloc _).drew) (by rw [HLV.out]; exact hgrow1)).cell 0; have hf5 : w1.frozen? ⟨rb, 0, none⟩ = false := (rblk HAT.out ((((Turn.refl _ w).alloc _).alloc _).drew) (by rw [HLV.out]; exact hgrow1)).frozen 0))
    all_goals
      have hrg : Hid (RGrew w B rb F (os ++ [Ob.fresh o]) (w1.setCell ⟨rb, 0, none⟩ (.slice (some ⟨g, 0, none⟩) (os.length + 1) cap1))) :=
        RHp.upd HF.out (RAt.push HAT.out (Ob.fresh o) rfl (fun _ => rfl) ((((Turn.refl _ w).alloc _).alloc _).drew) (by rw [HLV.out]; exact hgrow1) rfl rfl hown1 (by rw [HLV.out]; exact hat1.imp id (fun e => by omega)) rfl)
      clear hgrow1 hown1 hat1 hz0
      go_wp2
      go_ret2
      exact ⟨by simp, hrg.out⟩
  · have hpb : (o.proto != -1) = true := by rw [bne_iff_ne]; omega
    have HP0 := Lib.hid hp0
    have HP1 := Lib.hid hp1
    clear hp0 hp1
    go_enter Try.func35, Try.ntmps35
    go_wp2_with (go_at_call 39; refine (ris_in _ rb os.length cap A o.proto (HCW.out _) HP0.out HP1.out).mono ?_; rintro e w' ⟨rfl, rfl⟩)
    go_region_law ((refine step_append_lies _ (by rfl) _ _ _ (by rfl) B 74 i0 _ 6 80 Try.underlying54 hi0 hz0 hz1 hz2 rfl (by omega) (.slice A os.length cap) _ (rowCells Ls os) (by rfl) (by exact ((HR.out.alloc _).alloc _)) ⟨w.heap.size + 1, 0, none⟩ 1 1 [.int .i64 o.mark, .int .i64 o.proto, .int .i64 o.code, .int .i64 o.frame, .slice none 0 0, .slice none 0 0] (by rfl) (by rfl) (World.news_of_block (cs := #[.int .i64 o.mark, .int .i64 o.proto, .int .i64 o.code, .int .i64 o.frame, .slice none 0 0, .slice none 0 0]) (t := 74) (fr := (0, 0)) (by exact alloc2_last w _ _)) (by simp [Value.oneCell']) (by omega) (by simp only [maxLen]; omega) (by omega) (by simp; omega) (w.heap.size + 1 + 1) (by simp) ?_; intro g cap1 w1 hown1 hgrow1 hat1 hlt1; have hc5 : w1.cell? ⟨rb, 0, none⟩ = some lv := (rblk HAT.out ((((Turn.refl _ w).alloc _).alloc _).drew) (by rw [HLV.out]; exact hgrow1)).cell 0; have hf5 : w1.frozen? ⟨rb, 0, none⟩ = false := (rblk HAT.out ((((Turn.refl _ w).alloc _).alloc _).drew) (by rw [HLV.out]; exact hgrow1)).frozen 0))
    all_goals
      have hrg : Hid (RGrew w B rb F (os ++ [Ob.fresh o]) (w1.setCell ⟨rb, 0, none⟩ (.slice (some ⟨g, 0, none⟩) (os.length + 1) cap1))) :=
        RHp.upd HF.out (RAt.push HAT.out (Ob.fresh o) rfl (fun _ => rfl) ((((Turn.refl _ w).alloc _).alloc _).drew) (by rw [HLV.out]; exact hgrow1) rfl rfl hown1 (by rw [HLV.out]; exact hat1.imp id (fun e => by omega)) rfl)
      clear hgrow1 hown1 hat1 hz0
      go_wp2
      go_ret2
      exact ⟨by simp, hrg.out⟩

set_option maxHeartbeats 2000000 in
theorem ralloc_arg (w : World) (rb n cap : Nat) (A : Option Addr) (o : Ox) (hc : w.cell? ⟨rb, 0, none⟩ = some (.slice A n cap)) (hne : o.proto ≠ -1) (hp : o.proto < 0 ∨ n ≤ o.proto) :
    Calls Try.prog 35 #[.pointer (some ⟨rb, 0, none⟩), .agg #[.int .i64 o.mark, .int .i64 o.proto, .int .i64 o.code, .int .i64 o.frame]] w (ErrOnly w 2) := by
  have hlt : rb < w.heap.size := World.block_lt_of_cell? w _ hc
  have hpb : (o.proto != -1) = true := by rw [bne_iff_ne]; omega
  have HP := Lib.hid hp
  clear hne hp
  go_enter Try.func35, Try.ntmps35
  go_wp2_with (go_at_call 39; refine (ris_out _ rb n cap A o.proto (by rw [World.cell?_alloc_lt _ _ _ hlt]; exact hc) HP.out).mono ?_; rintro e w' ⟨rfl, rfl⟩)
  go_ret2
  exact ⟨rfl, (Below.refl _ _).alloc (Nat.le_refl _) _⟩

set_option maxHeartbeats 2000000 in
theorem ralloc_full (w : World) (rb cap : Nat) (A : Option Addr) (o : Ox) (hc : w.cell? ⟨rb, 0, none⟩ = some (.slice A (5000 : Nat) cap)) (hp : o.proto = -1 ∨ 0 ≤ o.proto ∧ o.proto < 5000) :
    Calls Try.prog 35 #[.pointer (some ⟨rb, 0, none⟩), .agg #[.int .i64 o.mark, .int .i64 o.proto, .int .i64 o.code, .int .i64 o.frame]] w (ErrOnly w 71) := by
  have hlt : rb < w.heap.size := World.block_lt_of_cell? w _ hc
  rcases hp with hp | ⟨hp0, hp1⟩
  · have hpb : (o.proto != -1) = false := by rw [hp]; rfl
    have hpn : o.proto < 0 := by omega
    have HPN := Lib.hid hpn
    clear hp hpn
    go_enter Try.func35, Try.ntmps35
    go_wp2_with (go_at_call 39; refine (ris_out _ rb 5000 cap A o.proto (by rw [World.cell?_alloc_lt _ _ _ hlt]; exact hc) (.inl HPN.out)).mono ?_; rintro e w' ⟨rfl, rfl⟩)
    go_ret2
    exact ⟨rfl, (Below.refl _ _).alloc (Nat.le_refl _) _⟩
  · have hpb : (o.proto != -1) = true := by rw [bne_iff_ne]; omega
    have HP0 := Lib.hid hp0
    have HP1 := Lib.hid hp1
    clear hp0 hp1
    go_enter Try.func35, Try.ntmps35
    go_wp2_with (go_at_call 39; refine (ris_in _ rb 5000 cap A o.proto (by rw [World.cell?_alloc_lt _ _ _ hlt]; exact hc) HP0.out HP1.out).mono ?_; rintro e w' ⟨rfl, rfl⟩)
    go_ret2
    exact ⟨rfl, (Below.refl _ _).alloc (Nat.le_refl _) _⟩

theorem ralloc_calls (w : World) (B rb : Nat) (F : Nat → Prop) (os : List Ob) (o : Ox) (h : RHp w B rb F os) (hB : B ≤ w.heap.size) (hlen : os.length ≤ 5000) :
    Calls Try.prog 35 #[.pointer (some ⟨rb, 0, none⟩), .agg #[.int .i64 o.mark, .int .i64 o.proto, .int .i64 o.code, .int .i64 o.frame]] w fun e w' =>
      e = .returned (.tuple #[.int .i64 (allocT os o).1.1, .int .i64 (allocT os o).1.2]) ∧ RGrew w B rb F (allocT os o).2 w' := by
  obtain ⟨A, cap, hc⟩ := h.cell
  unfold allocT
  by_cases h1 : o.proto ≠ -1 ∧ (o.proto < 0 ∨ os.length ≤ o.proto)
  · rw [if_pos h1]
    refine (ralloc_arg w rb os.length cap A o hc h1.1 h1.2).mono ?_
    rintro e w' ⟨rfl, hb'⟩
    exact ⟨rfl, RGrew.same h hb'⟩
  · rw [if_neg h1]
    by_cases h2 : os.length = 5000
    · rw [if_pos h2]
      rw [h2] at hc
      refine (ralloc_full w rb cap A o hc (by omega)).mono ?_
      rintro e w' ⟨rfl, hb'⟩
      exact ⟨rfl, RGrew.same h hb'⟩
    · rw [if_neg h2]
      exact ralloc_ok w B rb F os o h hB (by omega) (by omega)

end Go.Proofs.Ytbdkbjfaialeoaa
