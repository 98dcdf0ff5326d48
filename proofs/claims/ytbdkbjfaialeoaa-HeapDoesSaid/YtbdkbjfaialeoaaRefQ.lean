/- The document's heap: Put, walked. -/
import Derived.Test.YtbdkbjfaialeoaaRefW
namespace Go.Proofs.Ytbdkbjfaialeoaa
open Go.RowKit Go.Sort

theorem row_cell {W w1 : World} {B n size : Nat} {e : TypeId} {lv : Value} {xs : List Value} (hrow : W.ownsRow B e size lv n xs) {g : Nat} (hg : lv.ownBlock = some g) (hk : w1.heap[g]? = W.heap[g]?) (i : Nat) : w1.cell? ⟨g, i, none⟩ = W.cell? ⟨g, i, none⟩ ∧ w1.frozen? ⟨g, i, none⟩ = false := by
  obtain ⟨cur, hc⟩ := own_blk hrow hg
  exact ⟨World.cell?_of_block hk, (hc.keep hk).frozen i⟩
theorem row_stay {W w0 w1 : World} {B n m size size' : Nat} {e e' : TypeId} {lv kv : Value} {xs ys : List Value} (hrow : W.ownsRow B e size lv n xs) (hkv : W.ownsRow B e' size' kv m ys) (he : e ≠ e') {g : Nat} (hg : lv.ownBlock = some g) (hT : Turn (fun _ => False) W w0) (hgrow : w0.grownBy w1 kv.ownBlock) : w1.heap[g]? = W.heap[g]? := by
  obtain ⟨cur, hc⟩ := own_blk hrow hg
  rw [hgrow.block g (Nat.lt_of_lt_of_le hc.lt hT.size) (fun h => by
    obtain ⟨c2, hc2⟩ := own_blk hkv h.symm
    exact he (hc.eq hc2).1), hT.block g hc.lt (fun x => x)]
theorem blk_stay {W w0 w1 : World} {B m k size' : Nat} {e e' : TypeId} {kv : Value} {cs : Array Value} {ys : List Value} (hc : Blk W k e cs) (hkv : W.ownsRow B e' size' kv m ys) (he : e ≠ e') (hT : Turn (fun _ => False) W w0) (hgrow : w0.grownBy w1 kv.ownBlock) (i : Nat) : w1.cell? ⟨k, i, none⟩ = W.cell? ⟨k, i, none⟩ := by
  refine World.cell?_of_block ?_
  show w1.heap[k]? = W.heap[k]?
  rw [hgrow.block k (Nat.lt_of_lt_of_le hc.lt hT.size) (fun h => by
    obtain ⟨c2, hc2⟩ := own_blk hkv h.symm
    exact he (hc.eq hc2).1), hT.block k hc.lt (fun x => x)]
theorem Mid.cell5 {w W : World} {B rb : Nat} {lv : Value} {Ls : List Ro} {os : List Ob} {p : Nat} {L : Ro} {o : Ob} {key : ByteArray} {kv' : Value} (h : Mid w W B rb lv Ls os p L o key kv') (hlen : Ls.length = os.length) (hL : Ls[p]? = some L) (ho : os[p]? = some o) {g : Nat} (hg : lv.ownBlock = some g) : W.cell? ⟨g, p * 6 + 5, none⟩ = some L.vv := by
  have h1 := rowCells_at (Ls := Ls) (os := os) 5 hL ho (by decide)
  have hp : p < os.length := (List.getElem?_eq_some_iff.1 ho).1
  have hx : ((rowCells Ls os).set (p * 6 + 4) kv')[p * 6 + 5]? = some L.vv := by
    rw [List.getElem?_set_ne (by omega), h1]
    rfl
  have := h.row.cells hg (p * 6 + 5) _ hx
  have hadd : (⟨g, 0, none⟩ : Addr).add (p * 6 + 5) = ⟨g, p * 6 + 5, none⟩ := by unfold Addr.add; split <;> simp_all
  rw [hadd] at this
  have _ := hlen
  exact this
/-- A piece that comes to one end, but for two numbers, whatever the order. -/
def midPost (A : Nat → Nat → Act) (R : Nat → Nat → World → Prop) : Exit → Act → World → Prop
  | .normal, a, w => ∃ g n, a = A g n ∧ R g n w
  | _, _, _ => False
theorem wp_mid {P : Program} {c : Code} {Q : Exit → Act → World → Prop} {a : Act} {w : World} (A : Nat → Nat → Act) (R : Nat → Nat → World → Prop)
    (h : c.wp P (midPost A R) a w) (hq : ∀ g n w', R g n w' → Q .normal (A g n) w') : c.wp P Q a w :=
  wp_mono h (fun e a' w' hh => by
    cases e with
    | normal =>
      obtain ⟨g, n, rfl, hr⟩ := hh
      exact hq g n w' hr
    | _ => exact hh.elim)
theorem RGrew.drew {w w' : World} {B rb : Nat} {F : Nat → Prop} {os' : List Ob} (h : RGrew w B rb F os' w') : RGrew w B rb F os' w'.drew := by
  obtain ⟨F', h1, h2, h3⟩ := h
  exact ⟨F', h1.keep (fun _ _ => rfl), h2.drew, h3⟩

set_option maxRecDepth 100000 in
set_option maxHeartbeats 4000000 in
theorem rput_ok (w : World) (B rb : Nat) (F : Nat → Prop) (os : List Ob) (k : Nat) (o : Ob) (key : ByteArray) (v : Vl) (h : RHp w B rb F os) (hB : B ≤ w.heap.size) (ho : os[k]? = some o) (hr : right v.kind v.n v.s = true) (hn : o.keys.length ≤ 100000) (h5 : (v.kind == 5) = false) :
    Calls Try.prog 36 #[.pointer (some ⟨rb, 0, none⟩), .int .i64 k, .string key, .agg #[.int .i64 v.kind, .int .i64 v.n, .string v.s]] w fun e w' =>
      e = .returned (.int .i64 0) ∧ RGrew w B rb F (os.set k (o.put key v)) w' := by
  obtain ⟨lv, Ls, hat, hfoot⟩ := h
  obtain ⟨g, cap, L, hlv, hL, hc, _, _, hgl⟩ := hat.way ho
  have hlt := hat.blk.lt
  have hk1 : k < os.length := (List.getElem?_eq_some_iff.1 ho).1
  have hk2 : (k : Int) < os.length := by omega
  have HAT := Lib.hid hat
  have HF := Lib.hid hfoot
  have HL := Lib.hid hL
  have HO := Lib.hid ho
  have HLV : Hid (lv.ownBlock = some g) := by rw [hlv]; exact Lib.hid rfl
  have HR := Lib.hid hr
  clear hat hfoot hL ho hlv hr
  go_enter Try.func36, Try.ntmps36
  go_wp2_with (go_at_call 39; refine (ris_in _ rb os.length cap _ k (by rw [World.cell?_alloc_lt _ _ _ hlt]; exact hc) (by omega) hk2).mono ?_; rintro e w' ⟨rfl, rfl⟩)
  obtain ⟨w1, hw1⟩ : ∃ w1, w.alloc (.cells #[.int .i64 v.kind, .int .i64 v.n, .string v.s] 33) = w1 := ⟨_, rfl⟩
  have bv : Blk w1 w.heap.size 33 #[.int .i64 v.kind, .int .i64 v.n, .string v.s] := by rw [← hw1]; exact Blk.new _ _ _
  have hB1 : Below w.heap.size w w1 := by rw [← hw1]; exact (Below.refl _ _).alloc (Nat.le_refl _) _
  rw [hw1]
  clear hw1 hc
  refine (rright_calls w1 v.kind v.n v.s).mono ?_
  rintro e w2 ⟨rfl, hb2⟩
  rw [HR.out]
  replace bv := bv.keep (hb2.block _ bv.lt)
  replace hB1 := hB1.trans (hb2.mono hB1.size)
  clear hb2
  have hat2 := HAT.out.keep (fun j hj => hB1.block j (HAT.out.foot j hj).2)
  obtain ⟨g2, cap2, L2, hlv2, hL2, hc2, hcs2, hO2, hgl2⟩ := hat2.way HO.out
  obtain rfl : g2 = g := by
    have := HLV.out
    rw [hlv2] at this
    simpa [Value.ownBlock] using this
  obtain rfl : L2 = L := by
    have := HL.out
    rw [hL2] at this
    injection this
  have c4 : w2.cell? ⟨g2, k * 6 + 4, none⟩ = some L2.kv := hcs2 4 (by decide)
  have c5 : w2.cell? ⟨g2, k * 6 + 5, none⟩ = some L2.vv := hcs2 5 (by decide)
  obtain ⟨A, c, hkv⟩ := own_slice hO2.krow
  obtain ⟨A', c', hvv⟩ := own_slice hO2.vrow
  rw [hkv] at c4
  rw [hvv] at c5
  have b0 := bv.cell 0
  have b1 := bv.cell 1
  have b2 := bv.cell 2
  have HBV := Lib.hid bv
  have HB1 := Lib.hid hB1
  have HAT2 := Lib.hid hat2
  have HO2 := Lib.hid hO2
  have HKV := Lib.hid hkv
  have HVV := Lib.hid hvv
  have HLV2 := Lib.hid hlv2
  clear bv hB1 hat2 hO2 hkv hvv hcs2 hL2 hlv2 hgl hgl2
  go_wp2
  go_region
  go_wp2
  have HB3 : Hid (Below w.heap.size w w2.drew) := HB1.out.drew
  have HAT3 : Hid (RAt w2.drew B rb lv Ls os) := HAT2.out.keep (fun _ _ => rfl)
  have HO3 : Hid (RObj w2.drew B L2 o) := HO2.out.keep (fun _ _ => rfl) (fun _ _ => rfl)
  have HBV3 : Hid (Blk w2.drew w.heap.size 33 #[.int .i64 v.kind, .int .i64 v.n, .string v.s]) := HBV.out.keep rfl
  replace hc2 : w2.drew.cell? ⟨rb, 0, none⟩ = some (.slice (some ⟨g2, 0, none⟩) os.length cap2) := hc2
  replace c4 : w2.drew.cell? ⟨g2, k * 6 + 4, none⟩ = some (.slice A o.keys.length c) := c4
  replace c5 : w2.drew.cell? ⟨g2, k * 6 + 5, none⟩ = some (.slice A' o.keys.length c') := c5
  replace b0 : w2.drew.cell? ⟨w.heap.size, 0, none⟩ = some (.int .i64 v.kind) := b0
  replace b1 : w2.drew.cell? ⟨w.heap.size, 1, none⟩ = some (.int .i64 v.n) := b1
  replace b2 : w2.drew.cell? ⟨w.heap.size, 2, none⟩ = some (.string v.s) := b2
  clear HB1 HAT2 HO2 HBV h5
  generalize w2.drew = W at *
  have HSL : Hid (SlR W (.slice A o.keys.length c) (o.keys.map Value.string)) := by rw [← HKV.out]; exact SlR.of_own HO3.out.krow
  have HVR : Hid (W.ownsRow B 33 3 (.slice A' o.keys.length c') o.keys.length (valsOf o o.keys)) := by rw [← HVV.out]; exact HO3.out.vrow
  have HTW : Hid (Turn (fun _ => False) w W) := Turn.of_below HB3.out
  have hBW : B ≤ W.heap.size := Nat.le_trans hB HB3.out.size
  go_loopw [11] (fun i wr => ∃ m : Nat, m ≤ o.keys.length ∧ i = .int .i64 m ∧ key ∉ o.keys.take m ∧ wr = W) (fun i _ => o.keys.length - (intOf i).toNat)
  case atStart => exact ⟨0, by omega, rfl, by simp, rfl⟩
  case round =>
    obtain ⟨m, hm, rfl, htk, rfl⟩ := hrel
    have HT := Lib.hid htk
    clear htk
    by_cases hmt : m < o.keys.length
    · have hx : o.keys[m]? = some o.keys[m] := List.getElem?_eq_getElem hmt
      generalize o.keys[m] = x at hx
      obtain ⟨A2, c2, hAA, hcells⟩ := HSL.out
      injection hAA with hA1 hA2 hA3
      clear hA2 hA3
      subst hA1
      obtain ⟨bb1, o1, hA', hbb1, hc1⟩ := hcells m (.string x) (by simp [hx])
      subst hA'
      have HX := Lib.hid hx
      clear hcells hx
      by_cases hxy : x = key
      · subst hxy
        have heq : (x.toList == x.toList) = true := by simp
        obtain ⟨gv, capv, hvv, _, hgv⟩ := HVR.out.form (by omega)
        injection hvv with hv1 hv2 hv3
        clear hv2 hv3
        subst hv1
        have HGV : Hid (L2.vv.ownBlock = some gv) := by rw [HVV.out]; exact Lib.hid rfl
        have hvc : ∀ j, j < 3 → wr.cell? ⟨gv, m * 3 + j, none⟩ = (valAt o x).cells[j]? := fun j hj => by
          have h1 := valsOf_at o j HX.out hj
          have hlt : j < (valAt o x).cells.length := by simpa [Vl.cells] using hj
          rw [List.getElem?_eq_getElem hlt] at h1 ⊢
          have := HVR.out.cells (g := gv) rfl (m * 3 + j) _ h1
          have hadd : (⟨gv, 0, none⟩ : Addr).add (m * 3 + j) = ⟨gv, m * 3 + j, none⟩ := by unfold Addr.add; split <;> simp_all
          rw [hadd] at this
          exact this
        have v0 : wr.cell? ⟨gv, m * 3, none⟩ = some (.int .i64 (valAt o x).kind) := hvc 0 (by decide)
        have v1 : wr.cell? ⟨gv, m * 3 + 1, none⟩ = some (.int .i64 (valAt o x).n) := hvc 1 (by decide)
        have v2 : wr.cell? ⟨gv, m * 3 + 2, none⟩ = some (.string (valAt o x).s) := hvc 2 (by decide)
        have f0 := (row_cell HVR.out (g := gv) rfl rfl (m * 3)).2
        have f1 := (row_cell HVR.out (g := gv) rfl rfl (m * 3 + 1)).2
        have f2 := (row_cell HVR.out (g := gv) rfl rfl (m * 3 + 2)).2
        clear hvc
        go_wp2
        go_region
        go_wp2
        go_ret
        refine ⟨rfl, RGrew.from_ (w1 := wr) ?_ HTW.out⟩
        refine RGrew.drew (RHp.upd HF.out (RAt.put_old HAT3.out v HL.out HO.out HX.out HGV.out rfl))
      · have hne : (x.toList == key.toList) = false := by
          rw [ByteArray.toList_eq, ByteArray.toList_eq, beq_eq_false_iff_ne]
          exact fun h => hxy (Go.WideShapes.bytes_inj h)
        have HNE := Lib.hid hxy
        clear hxy
        go_wp2
        go_roundw
        case rel =>
          refine ⟨m + 1, by omega, by go_num, ?_, trivial⟩
          rw [List.take_add_one, HX.out]
          simp only [Option.toList_some, List.mem_append, List.mem_singleton, not_or]
          exact ⟨HT.out, fun e => HNE.out e.symm⟩
        case measure => simp [intOf]; omega
    · obtain rfl : m = o.keys.length := by omega
      have hd : decide ((o.keys.length : Int) < (o.keys.length : Int)) = false := by simp
      have HNO : Hid (key ∉ o.keys) := by
        refine Lib.hid ?_
        have := HT.out
        rwa [List.take_length] at this
      clear HT
      obtain ⟨i0, hi0, hz0, hz1, hz2⟩ := info_parts info_str
      have HKR : Hid (wr.ownsRow B 9 1 (.slice A o.keys.length c) o.keys.length (o.keys.map Value.string)) := by rw [← HKV.out]; exact HO3.out.krow
      have hl2 : rb < wr.heap.size := World.block_lt_of_cell? _ _ hc2
      have hl3 : g2 < wr.heap.size := World.block_lt_of_cell? _ _ c4
      go_wp2
      apply wp_mid (R := fun gk cap1 W2 => Mid wr W2 B rb lv Ls os k L2 o key (.slice (some ⟨gk, 0, none⟩) (o.keys.length + 1) cap1))
      case h =>
        go_region_law ((refine step_append_lies _ (by rfl) _ _ _ (by rfl) B 9 i0 _ 1 16 Try.underlying38 hi0 hz0 hz1 hz2 rfl (by omega) (.slice A o.keys.length c) _ (o.keys.map Value.string) (by rfl) (by exact (HKR.out.alloc _)) ⟨wr.heap.size, 0, none⟩ 1 1 [.string key] (by rfl) (by rfl) (World.news_of_block (cs := #[.string key]) (t := 9) (fr := (0, 0)) (by exact Blk.new wr _ _)) (by simp [Value.oneCell']) (by omega) (by simp only [maxLen]; omega) (by omega) (by simp; omega) (wr.heap.size + 1) (by simp) ?_; intro gk cap1 w3 hown1 hgrow1 hat1 hlt1; have hc6 : w3.cell? ⟨rb, 0, none⟩ = some (.slice (some ⟨g2, 0, none⟩) os.length cap2) := (blk_stay HAT3.out.blk HKR.out (by decide) (((Turn.refl _ wr).alloc _).drew) hgrow1 0).trans hc2; have hc5 : w3.cell? ⟨g2, k * 6 + 4, none⟩ = some (.slice A o.keys.length c) := (row_cell HAT3.out.row HLV.out (row_stay HAT3.out.row HKR.out (by decide) HLV.out (((Turn.refl _ wr).alloc _).drew) hgrow1) _).1.trans c4; have hf5 : w3.frozen? ⟨g2, k * 6 + 4, none⟩ = false := (row_cell HAT3.out.row HLV.out (row_stay HAT3.out.row HKR.out (by decide) HLV.out (((Turn.refl _ wr).alloc _).drew) hgrow1) _).2))
        all_goals exact ⟨gk, cap1, rfl, RAt.mid HAT3.out HL.out HO.out HLV.out (((Turn.refl _ wr).alloc _).drew) (by rw [HKV.out]; exact hgrow1) hown1 (by rw [HKV.out]; exact hat1.imp id (fun e => by omega)) rfl⟩
      intro gk cap1 W2 hmid
      have HM := Lib.hid hmid
      have bv2 : Blk W2 w.heap.size 33 #[.int .i64 v.kind, .int .i64 v.n, .string v.s] := HBV3.out.turn hmid.turn (fun hg => by
        have hf : RFoot rb lv Ls w.heap.size := by
          rcases hg with hg | hg | hg
          · exact .inr (.inl hg)
          · exact .inr (.inr ⟨L2, List.mem_of_getElem? HL.out, .inl hg⟩)
          · exact .inr (.inr ⟨L2, List.mem_of_getElem? HL.out, .inr hg⟩)
        have := (HAT.out.foot _ hf).2
        omega)
      have e0 := bv2.cell 0
      have e1 := bv2.cell 1
      have e2 := bv2.cell 2
      have hc7 : W2.cell? ⟨rb, 0, none⟩ = some (.slice (some ⟨g2, 0, none⟩) os.length cap2) := by rw [hmid.blk.cell 0, ← HLV2.out]; rfl
      have hc8 : W2.cell? ⟨g2, k * 6 + 5, none⟩ = some (.slice A' o.keys.length c') := by rw [← HVV.out]; exact hmid.cell5 HAT.out.len HL.out HO.out HLV.out
      have HVR2 : Hid (W2.ownsRow B 33 3 (.slice A' o.keys.length c') o.keys.length (valsOf o o.keys)) := by rw [← HVV.out]; exact hmid.vrow
      have hB2 : B ≤ W2.heap.size := Nat.le_trans hBW hmid.turn.size
      have hl4 : rb < W2.heap.size := World.block_lt_of_cell? _ _ hc7
      have hl5 : g2 < W2.heap.size := World.block_lt_of_cell? _ _ hc8
      obtain ⟨i1, hi1, hy0, hy1, hy2⟩ := info_parts info_val
      clear hmid bv2 hc2 c4 c5 b0 b1 b2 hi0 hz0 hz1 hz2 hl2 hl3
      go_wp2
      apply wp_mid (R := fun gv cap3 W4 => RGrew wr B rb F (os.set k (o.put key v)) W4)
      case h =>
        go_region_law ((refine step_append_lies _ (by rfl) _ _ _ (by rfl) B 33 i1 _ 3 32 Try.underlying72 hi1 hy0 hy1 hy2 rfl (by omega) (.slice A' o.keys.length c') _ (valsOf o o.keys) (by rfl) (by exact (HVR2.out.alloc _)) ⟨W2.heap.size, 0, none⟩ 1 1 [.int .i64 v.kind, .int .i64 v.n, .string v.s] (by rfl) (by rfl) (World.news_of_block (cs := #[.int .i64 v.kind, .int .i64 v.n, .string v.s]) (t := 33) (fr := (0, 0)) (by exact Blk.new W2 _ _)) (by simp [Value.oneCell']) (by omega) (by simp only [maxLen]; omega) (by omega) (by simp; omega) (W2.heap.size + 1) (by simp) ?_; intro gv cap3 w5 hown2 hgrow2 hat2 hlt2; have hc9 : w5.cell? ⟨rb, 0, none⟩ = some (.slice (some ⟨g2, 0, none⟩) os.length cap2) := (blk_stay HM.out.blk HVR2.out (by decide) (((Turn.refl _ W2).alloc _).drew) hgrow2 0).trans hc7; have hc10 : w5.cell? ⟨g2, k * 6 + 5, none⟩ = some (.slice A' o.keys.length c') := (row_cell HM.out.row HLV.out (row_stay HM.out.row HVR2.out (by decide) HLV.out (((Turn.refl _ W2).alloc _).drew) hgrow2) _).1.trans hc8; have hf10 : w5.frozen? ⟨g2, k * 6 + 5, none⟩ = false := (row_cell HM.out.row HLV.out (row_stay HM.out.row HVR2.out (by decide) HLV.out (((Turn.refl _ W2).alloc _).drew) hgrow2) _).2))
        all_goals exact ⟨gv, cap3, rfl, RHp.upd HF.out (RAt.put_new HAT3.out v HL.out HO.out HNO.out HLV.out HM.out (((Turn.refl _ W2).alloc _).drew) (by rw [HVV.out]; exact hgrow2) hown2 (by rw [HVV.out]; exact hat2.imp id (fun e => by have := HM.out.turn.size; omega)) rfl)⟩
      intro gv cap3 W4 hfin
      have HFIN := Lib.hid (RGrew.from_ (w1 := wr) hfin HTW.out)
      clear hfin e0 e1 e2 hc7 hc8 hi1 hy0 hy1 hy2
      go_wp2
      go_ret
      exact ⟨rfl, HFIN.out⟩

end Go.Proofs.Ytbdkbjfaialeoaa
