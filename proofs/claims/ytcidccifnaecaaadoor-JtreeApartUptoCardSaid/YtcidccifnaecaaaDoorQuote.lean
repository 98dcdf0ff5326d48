/- jlex.Quote, walked. -/
import Derived.Test.YtcidccifnaecaaaDoorLaid
import Derived.Test.YtcidccifnaecaaaDoorShelf
import Derived.StillTailTactics
import Derived.Lib.FrozenHead
import Derived.Lib.OthersKept
namespace Go.Proofs.YtcidccifnaecaaaDoor
open Go.RowKit Go.Sort

theorem builder_new (w : World) : Lib.IsBuilderF 69 5 w.heap.size w.heap.size [] (w.alloc (.cells #[.pointer none, .slice none 0 0] 69)) :=
  .inl ⟨Nat.le_refl _, .slice none 0 0, heap_alloc_new _ _, ⟨rfl, .inl ⟨rfl, rfl⟩⟩, by simp [Value.ownBlock]⟩
theorem builder_bel {T e : TypeId} {B b : Nat} {bs : List Value} {w w' : World} (h : Lib.IsBuilderF T e B b bs w) (hb : Below w.heap.size w w') : Lib.IsBuilderF T e B b bs w' := by
  have hg : w.grownBy w' none := ⟨hb.os, hb.tape, hb.output, hb.size, fun k hk _ => hb.block k hk⟩
  have one : ∀ p, Lib.BuilderAtF T e B b p bs w → Lib.BuilderAtF T e B b p bs w' := by
    intro p h
    have hlt := h.lt
    obtain ⟨hB, v, hc, hown, hne⟩ := h
    exact ⟨hB, v, (hb.block _ hlt).trans hc, hown.kept hg (by cases v.ownBlock <;> simp), hne⟩
  exact h.elim (fun x => .inl (one _ x)) (fun x => .inr (one _ x))
theorem cells_app (a b : List UInt8) : Lib.byteCells (a ++ b) = Lib.byteCells a ++ Lib.byteCells b := by simp [Lib.byteCells]
theorem cells_str (s : ByteArray) : Lib.strCells s = Lib.byteCells s.data.toList := rfl

/-- A builder in the first block that the call has made, that holds l. -/
structure Bld (w : World) (l : List UInt8) (wr : World) : Prop where
  bld : Lib.IsBuilderF 69 5 w.heap.size w.heap.size (Lib.byteCells l) wr
  low : Below w.heap.size w wr
theorem Bld.new (w : World) : Bld w [] (w.alloc (.cells #[.pointer none, .slice none 0 0] 69)) := ⟨builder_new w, (Below.refl _ _).alloc (Nat.le_refl _) _⟩
theorem Bld.below {w wr w' : World} {l : List UInt8} (h : Bld w l wr) (hb : Below wr.heap.size wr w') : Bld w l w' := ⟨builder_bel h.bld hb, h.low.trans (hb.mono h.low.size)⟩
theorem Bld.byte {w wr : World} {l : List UInt8} (h : Bld w l wr) (c : UInt8) (hl : l.length + 1 ≤ 140737488355328) :
    Calls Tryd.prog 59 #[.pointer (some ⟨w.heap.size, 0, none⟩), .int .u8 c.toNat] wr fun e w' => e = .returned .nilIface ∧ Bld w (l ++ [c]) w' :=
  (Tryd.Builder_WriteByte_k w.heap.size w.heap.size _ _ wr h.bld (by rw [Lib.byteCells_length]; exact hl) h.low.size).mono fun _ _ ⟨he, hb, hlow, _⟩ =>
    ⟨he, .inr (by rw [cells_app]; exact hb), h.low.trans hlow⟩
theorem Bld.text {w wr : World} {l : List UInt8} (h : Bld w l wr) (u : ByteArray) (hl : l.length + u.size ≤ 140737488355328) :
    Calls Tryd.prog 60 #[.pointer (some ⟨w.heap.size, 0, none⟩), .string u] wr fun e w' => (∃ v, e = .returned v) ∧ Bld w (l ++ u.data.toList) w' :=
  (Tryd.Builder_WriteString_k w.heap.size w.heap.size _ _ wr h.bld (by rw [Lib.byteCells_length]; exact hl) h.low.size).mono fun _ _ ⟨he, hb, hlow, _⟩ =>
    ⟨⟨_, he⟩, .inr (by rw [cells_app, ← cells_str]; exact hb), h.low.trans hlow⟩
theorem Bld.told {w wr : World} {l : List UInt8} (h : Bld w l wr) :
    Calls Tryd.prog 61 #[.pointer (some ⟨w.heap.size, 0, none⟩)] wr fun e w' => e = .returned (.string ⟨l.toArray⟩) ∧ Below w.heap.size w w' :=
  (Tryd.Builder_String_any_k w.heap.size w.heap.size l wr h.bld h.low.size).mono fun _ _ ⟨he, _, hlow, _⟩ => ⟨he, h.low.trans hlow⟩

theorem flat_split (f : UInt8 → List UInt8) (l : List UInt8) (k : Nat) : l.flatMap f = (l.take k).flatMap f ++ (l.drop k).flatMap f := by
  rw [← List.flatMap_append, List.take_append_drop]
theorem flat_next (f : UInt8 → List UInt8) {l : List UInt8} {k : Nat} {c : UInt8} (h : l[k]? = some c) : (l.take (k + 1)).flatMap f = (l.take k).flatMap f ++ f c := by
  rw [List.take_add_one, h, List.flatMap_append]
  simp
theorem byte_is {c d : UInt8} (h : ((c.toNat : Int) == (d.toNat : Int)) = true) : c = d := by
  have h1 : (c.toNat : Int) = d.toNat := by simpa using h
  exact UInt8.toNat_inj.1 (by omega)
theorem quote_room {l : List UInt8} (h : (quoteL l).length ≤ 140737488355328) (k : Nat) : ([34] ++ (l.take k).flatMap quoteC).length + 1 ≤ 140737488355328 := by
  have h1 := congrArg List.length (flat_split quoteC l k)
  unfold quoteL at h
  simp only [List.length_append, List.length_cons, List.length_nil] at h h1 ⊢
  omega

theorem hex_idx (q : Nat) (hq : q < 16) (w : World) : (Instr.index 9 (.string ⟨#[48, 49, 50, 51, 52, 53, 54, 55, 56, 57, 97, 98, 99, 100, 101, 102]⟩) (.int .u8 (q : Int))).run Tryd.prog w = .ok (.int .u8 ((hexC q).toNat : Int)) w := by
  have h : q = 0 ∨ q = 1 ∨ q = 2 ∨ q = 3 ∨ q = 4 ∨ q = 5 ∨ q = 6 ∨ q = 7 ∨ q = 8 ∨ q = 9 ∨ q = 10 ∨ q = 11 ∨ q = 12 ∨ q = 13 ∨ q = 14 ∨ q = 15 := by omega
  rcases h with rfl | rfl | rfl | rfl | rfl | rfl | rfl | rfl | rfl | rfl | rfl | rfl | rfl | rfl | rfl | rfl <;> (show _ = _; kernel_rfl)
theorem hex_conv (q : Nat) (hq : q < 16) (w : World) : (convert 5 9 (.int .u8 ((hexC q).toNat : Int))).run Tryd.prog w = .ok (.string ⟨#[hexC q]⟩) w := by
  have h : q = 0 ∨ q = 1 ∨ q = 2 ∨ q = 3 ∨ q = 4 ∨ q = 5 ∨ q = 6 ∨ q = 7 ∨ q = 8 ∨ q = 9 ∨ q = 10 ∨ q = 11 ∨ q = 12 ∨ q = 13 ∨ q = 14 ∨ q = 15 := by omega
  rcases h with rfl | rfl | rfl | rfl | rfl | rfl | rfl | rfl | rfl | rfl | rfl | rfl | rfl | rfl | rfl | rfl <;> (show _ = _; kernel_rfl)

theorem and_15 : ∀ c : Fin 256, bits .and .u8 (c.val : Int) 15 = ((c.val % 16 : Nat) : Int) := by decide +kernel

set_option maxRecDepth 100000 in
set_option maxHeartbeats 2000000 in
theorem quote_calls (w : World) (s : ByteArray) (hs : (quoteL s.data.toList).length ≤ 140737488355328) (hz : s.size ≤ maxLen) :
    Calls Tryd.prog 39 #[.string s] w fun e w' => e = .returned (.string ⟨(quoteL s.data.toList).toArray⟩) ∧ Below w.heap.size w w' := by
  unfold maxLen at hz
  have HN := Lib.hid (Bld.new w)
  have HLEN := Lib.hid hs
  clear hs
  go_enter Tryd.func39, Tryd.ntmps39
  go_wp2_with fail
  refine (HN.out.byte 34 (by simp)).mono ?_
  rintro e w1 ⟨rfl, hb1⟩
  have HB1 := Lib.hid hb1
  clear hb1
  go_wp2
  go_loopw [9] (fun i wr => ∃ k : Nat, k ≤ s.size ∧ i = .int .i64 k ∧ Bld w ([34] ++ (s.data.toList.take k).flatMap quoteC) wr) (fun i _ => s.size - (intOf i).toNat)
  case atStart => exact ⟨0, by omega, rfl, HB1.out⟩
  case round =>
    obtain ⟨k, hk, rfl, hb⟩ := hrel
    have HB := Lib.hid hb
    clear hb
    by_cases hlt : k < s.size
    · have hc := byte_some hlt
      have HNX := Lib.hid (flat_next quoteC hc)
      have hroom := quote_room HLEN.out (k + 1)
      rw [flat_next quoteC hc, ← List.append_assoc, List.length_append] at hroom
      have HROOM := Lib.hid hroom
      clear hc hroom
      have hq : ∀ c : UInt8, s[k] = c → quoteC (s[k]) = quoteC c := fun c h => by rw [h]
      cases h10 : ((s[k].toNat : Int) == 10) with
      | true =>
        have hx : s[k] = 10 := byte_is (d := 10) h10
        have HQ : Hid (quoteC s[k] = [92, 110]) := Lib.hid (by rw [hx]; rfl)
        have HR := Lib.hid (by have := HROOM.out; rw [HQ.out] at this; exact this : ([34] ++ (s.data.toList.take k).flatMap quoteC).length + _ + 1 ≤ 140737488355328)
        clear hx
        go_wp2_with fail
        refine (HB.out.text ⟨#[92, 110]⟩ (by have := HR.out; simp only [List.length_cons, List.length_nil] at this; show _ + 2 ≤ _; omega)).mono ?_
        rintro e w2 ⟨⟨v, rfl⟩, hb2⟩
        have HB2 := Lib.hid hb2
        clear hb2
        go_wp2
        go_roundw
        case rel => exact ⟨k + 1, by omega, by go_num, by rw [HNX.out, HQ.out]; exact (by rw [← List.append_assoc]; exact HB2.out)⟩
        case measure => simp [intOf]; omega
      | false =>
      cases h9 : ((s[k].toNat : Int) == 9) with
      | true =>
        have hx : s[k] = 9 := byte_is (d := 9) h9
        have HQ : Hid (quoteC s[k] = [92, 116]) := Lib.hid (by rw [hx]; rfl)
        have HR := Lib.hid (by have := HROOM.out; rw [HQ.out] at this; exact this : ([34] ++ (s.data.toList.take k).flatMap quoteC).length + _ + 1 ≤ 140737488355328)
        clear hx
        go_wp2_with fail
        refine (HB.out.text ⟨#[92, 116]⟩ (by have := HR.out; simp only [List.length_cons, List.length_nil] at this; show _ + 2 ≤ _; omega)).mono ?_
        rintro e w2 ⟨⟨v, rfl⟩, hb2⟩
        have HB2 := Lib.hid hb2
        clear hb2
        go_wp2
        go_roundw
        case rel => exact ⟨k + 1, by omega, by go_num, by rw [HNX.out, HQ.out]; exact (by rw [← List.append_assoc]; exact HB2.out)⟩
        case measure => simp [intOf]; omega
      | false =>
      have hn10 : s[k] ≠ 10 := fun h => by rw [h] at h10; simp at h10
      have hn9 : s[k] ≠ 9 := fun h => by rw [h] at h9; simp at h9
      cases h34 : ((s[k].toNat : Int) == 34) with
      | true =>
        have hx : s[k] = 34 := byte_is (d := 34) h34
        have HQ : Hid (quoteC s[k] = [92, s[k]]) := Lib.hid (by rw [hx]; rfl)
        have HR := Lib.hid (by have := HROOM.out; rw [HQ.out] at this; exact this : ([34] ++ (s.data.toList.take k).flatMap quoteC).length + _ + 1 ≤ 140737488355328)
        clear hx
        go_wp2_with fail
        refine (HB.out.byte 92 (by have := HR.out; omega)).mono ?_
        rintro e w2 ⟨rfl, hb2⟩
        have HB2 := Lib.hid hb2
        clear hb2
        go_wp2_with fail
        refine (HB2.out.byte s[k] (by have := HR.out; rw [List.length_append]; simp only [List.length_cons, List.length_nil] at this ⊢; omega)).mono ?_
        rintro e w3 ⟨rfl, hb3⟩
        have HB3 := Lib.hid hb3
        clear hb3
        go_wp2
        go_roundw
        case rel => exact ⟨k + 1, by omega, by go_num, by rw [HNX.out, HQ.out]; exact (by rw [← List.append_assoc]; have := HB3.out; rw [List.append_assoc _ [92] [s[k]]] at this; exact this)⟩
        case measure => simp [intOf]; omega
      | false =>
      cases h92 : ((s[k].toNat : Int) == 92) with
      | true =>
        have hx : s[k] = 92 := byte_is (d := 92) h92
        have HQ : Hid (quoteC s[k] = [92, s[k]]) := Lib.hid (by rw [hx]; rfl)
        have HR := Lib.hid (by have := HROOM.out; rw [HQ.out] at this; exact this : ([34] ++ (s.data.toList.take k).flatMap quoteC).length + _ + 1 ≤ 140737488355328)
        clear hx
        go_wp2_with fail
        refine (HB.out.byte 92 (by have := HR.out; omega)).mono ?_
        rintro e w2 ⟨rfl, hb2⟩
        have HB2 := Lib.hid hb2
        clear hb2
        go_wp2_with fail
        refine (HB2.out.byte s[k] (by have := HR.out; rw [List.length_append]; simp only [List.length_cons, List.length_nil] at this ⊢; omega)).mono ?_
        rintro e w3 ⟨rfl, hb3⟩
        have HB3 := Lib.hid hb3
        clear hb3
        go_wp2
        go_roundw
        case rel => exact ⟨k + 1, by omega, by go_num, by rw [HNX.out, HQ.out]; exact (by rw [← List.append_assoc]; have := HB3.out; rw [List.append_assoc _ [92] [s[k]]] at this; exact this)⟩
        case measure => simp [intOf]; omega
      | false =>
      have hn34 : s[k] ≠ 34 := fun h => by rw [h] at h34; simp at h34
      have hn92 : s[k] ≠ 92 := fun h => by rw [h] at h92; simp at h92
      cases hp : (decide (32 ≤ (s[k].toNat : Int)) && decide ((s[k].toNat : Int) ≤ 126)) with
      | true =>
        have hp1 : decide (32 ≤ (s[k].toNat : Int)) = true := by rw [Bool.and_eq_true] at hp; exact hp.1
        have hp2 : decide ((s[k].toNat : Int) ≤ 126) = true := by rw [Bool.and_eq_true] at hp; exact hp.2
        have HQ : Hid (quoteC s[k] = [s[k]]) := Lib.hid (by
          have q1 := of_decide_eq_true hp1
          have q2 := of_decide_eq_true hp2
          rw [quoteC, if_neg hn10, if_neg hn9, if_neg (by simp [hn34, hn92]), if_pos (by omega)])
        have HR := Lib.hid (by have := HROOM.out; rw [HQ.out] at this; exact this : ([34] ++ (s.data.toList.take k).flatMap quoteC).length + _ + 1 ≤ 140737488355328)
        clear hn10 hn9 hn34 hn92 hp
        go_wp2_with fail
        refine (HB.out.byte s[k] (by have := HR.out; omega)).mono ?_
        rintro e w2 ⟨rfl, hb2⟩
        have HB2 := Lib.hid hb2
        clear hb2
        go_wp2
        go_roundw
        case rel => exact ⟨k + 1, by omega, by go_num, by rw [HNX.out, HQ.out]; exact (by rw [← List.append_assoc]; exact HB2.out)⟩
        case measure => simp [intOf]; omega
      | false =>
        have hlt256 := s[k].toNat_lt
        have HQ : Hid (quoteC s[k] = [92, 120, hexC (s[k].toNat / 16), hexC (s[k].toNat % 16)]) := Lib.hid (by
          rw [quoteC, if_neg hn10, if_neg hn9, if_neg (by simp [hn34, hn92]), if_neg ?_]
          intro hq
          simp at hp
          omega)
        clear hn10 hn9 hn34 hn92
        cases hp1 : decide (32 ≤ (s[k].toNat : Int)) with
        | false =>
          clear hp
          obtain ⟨qa, hqa⟩ : ∃ qa, qa = s[k].toNat / 16 := ⟨_, rfl⟩
          obtain ⟨qb, hqb⟩ : ∃ qb, qb = s[k].toNat % 16 := ⟨_, rfl⟩
          have hqa' : (s[k].toNat : Int) / 16 = (qa : Int) := by omega
          have hqb' : (s[k].toNat : Int) % 16 = (qb : Int) := by omega
          have hand : bits .and .u8 (s[k].toNat : Int) 15 = (qb : Int) := by rw [hqb]; exact and_15 ⟨s[k].toNat, hlt256⟩
          have ha16 : qa < 16 := by omega
          have hb16 : qb < 16 := by omega
          have hxa := hex_idx qa ha16
          have hxb := hex_idx qb hb16
          have hca := hex_conv qa ha16
          have hcb := hex_conv qb hb16
          rw [← hqa, ← hqb] at HQ
          clear hqa hqb
          have HR := Lib.hid (by have := HROOM.out; rw [HQ.out] at this; exact this : ([34] ++ (s.data.toList.take k).flatMap quoteC).length + _ + 1 ≤ 140737488355328)
          go_wp2
          go_still_tail 10, (by kernel_rfl)
          change wpList _ _ _ _ _ wr.drew
          have HU : Hid ((⟨#[92, 120]⟩ ++ ⟨#[hexC qa]⟩ ++ ⟨#[hexC qb]⟩ : ByteArray).data.toList = [92, 120, hexC qa, hexC qb] ∧ (⟨#[92, 120]⟩ ++ ⟨#[hexC qa]⟩ ++ ⟨#[hexC qb]⟩ : ByteArray).size = 4) := Lib.hid ⟨rfl, rfl⟩
          go_wp2_with fail
          generalize (⟨#[92, 120]⟩ ++ ⟨#[hexC qa]⟩ ++ ⟨#[hexC qb]⟩ : ByteArray) = u at HU ⊢
          refine ((HB.out.below (Below.refl _ _).drew).text u (by have := HR.out; simp only [List.length_cons, List.length_nil] at this; rw [HU.out.2]; omega)).mono ?_
          rintro e w2 ⟨⟨v, rfl⟩, hb2⟩
          rw [HU.out.1] at hb2
          have HB2 := Lib.hid hb2
          clear hb2
          go_wp2
          go_roundw
          case rel => exact ⟨k + 1, by omega, by go_num, by rw [HNX.out, HQ.out]; exact (by rw [← List.append_assoc]; exact HB2.out)⟩
          case measure => simp [intOf]; omega
        | true =>
          have hp2 : decide ((s[k].toNat : Int) ≤ 126) = false := by rw [hp1] at hp; simpa using hp
          clear hp
          obtain ⟨qa, hqa⟩ : ∃ qa, qa = s[k].toNat / 16 := ⟨_, rfl⟩
          obtain ⟨qb, hqb⟩ : ∃ qb, qb = s[k].toNat % 16 := ⟨_, rfl⟩
          have hqa' : (s[k].toNat : Int) / 16 = (qa : Int) := by omega
          have hqb' : (s[k].toNat : Int) % 16 = (qb : Int) := by omega
          have hand : bits .and .u8 (s[k].toNat : Int) 15 = (qb : Int) := by rw [hqb]; exact and_15 ⟨s[k].toNat, hlt256⟩
          have ha16 : qa < 16 := by omega
          have hb16 : qb < 16 := by omega
          have hxa := hex_idx qa ha16
          have hxb := hex_idx qb hb16
          have hca := hex_conv qa ha16
          have hcb := hex_conv qb hb16
          rw [← hqa, ← hqb] at HQ
          clear hqa hqb
          have HR := Lib.hid (by have := HROOM.out; rw [HQ.out] at this; exact this : ([34] ++ (s.data.toList.take k).flatMap quoteC).length + _ + 1 ≤ 140737488355328)
          go_wp2
          go_still_tail 10, (by kernel_rfl)
          change wpList _ _ _ _ _ wr.drew
          have HU : Hid ((⟨#[92, 120]⟩ ++ ⟨#[hexC qa]⟩ ++ ⟨#[hexC qb]⟩ : ByteArray).data.toList = [92, 120, hexC qa, hexC qb] ∧ (⟨#[92, 120]⟩ ++ ⟨#[hexC qa]⟩ ++ ⟨#[hexC qb]⟩ : ByteArray).size = 4) := Lib.hid ⟨rfl, rfl⟩
          go_wp2_with fail
          generalize (⟨#[92, 120]⟩ ++ ⟨#[hexC qa]⟩ ++ ⟨#[hexC qb]⟩ : ByteArray) = u at HU ⊢
          refine ((HB.out.below (Below.refl _ _).drew).text u (by have := HR.out; simp only [List.length_cons, List.length_nil] at this; rw [HU.out.2]; omega)).mono ?_
          rintro e w2 ⟨⟨v, rfl⟩, hb2⟩
          rw [HU.out.1] at hb2
          have HB2 := Lib.hid hb2
          clear hb2
          go_wp2
          go_roundw
          case rel => exact ⟨k + 1, by omega, by go_num, by rw [HNX.out, HQ.out]; exact (by rw [← List.append_assoc]; exact HB2.out)⟩
          case measure => simp [intOf]; omega
    · obtain rfl : k = s.size := by omega
      have hdd : decide ((s.size : Int) < (s.size : Int)) = false := by simp
      have HE : Hid ([34] ++ (s.data.toList.take s.size).flatMap quoteC ++ [34] = quoteL s.data.toList) := Lib.hid (by
        have h1 : s.data.toList.take s.size = s.data.toList := List.take_of_length_le (Nat.le_of_eq (Array.length_toList : s.data.toList.length = s.size))
        rw [h1, quoteL])
      have HR := Lib.hid (quote_room HLEN.out s.size)
      go_wp2_with fail
      refine (HB.out.byte 34 HR.out).mono ?_
      rintro e w2 ⟨rfl, hb2⟩
      rw [HE.out] at hb2
      have HB2 := Lib.hid hb2
      clear hb2
      go_wp2_with fail
      refine HB2.out.told.mono ?_
      rintro e w3 ⟨rfl, hb3⟩
      have HB3 := Lib.hid hb3
      clear hb3
      go_wp2
      go_ret
      exact ⟨rfl, HB3.out⟩

end Go.Proofs.YtcidccifnaecaaaDoor
