/- The texts of a list of expressions, of a function from its names on, of a block: walked. -/
import Derived.Test.YtcidccifnaecaaaDoorLines
import Derived.Laws.AppendOwn
import Derived.OwnWalk
import Derived.Deep.AppendLies
namespace Go.Proofs.YtcidccifnaecaaaDoor
open Go.RowKit Go.Sort

theorem info_strT : (Tryd.prog.info? 9).map (fun i => (i.zero, i.size, i.bytes)) = some (some (.string ⟨#[]⟩), 1, 16) := by kernel_rfl

theorem Kids.take {W : World} : ∀ {d : Nat} {l : List Tree} {A : Option Addr} {c : Nat} (_ : Kids W d l (.slice A l.length c)) (k : Nat), k ≤ l.length → Kids W d (l.take k) (.slice A k c)
  | 0, l, A, c, h, k, hk => by
    obtain ⟨rfl, _⟩ := h
    obtain rfl : k = 0 := by simpa using hk
    exact ⟨rfl, A, c, rfl⟩
  | d + 1, l, A, c, h, k, hk => by
    obtain ⟨hl, A', c', hv, h⟩ := h
    injection hv with h1 _ h3
    subst h1; subst h3
    refine ⟨by rw [List.length_take]; omega, A, c, by rw [List.length_take, Nat.min_eq_left hk], fun j t hj => ?_⟩
    have hjk : j < k := by
      rcases Nat.lt_or_ge j k with h9 | h9
      · exact h9
      · rw [List.getElem?_take_eq_none h9] at hj; cases hj
    rw [List.getElem?_take_of_lt hjk] at hj
    obtain ⟨a, sl, h1, h2, h3⟩ := h j t hj
    exact ⟨a, sl, h1, ⟨h2.1, by rw [List.length_take]; omega⟩, h3⟩
theorem add_add (a : Addr) (i j : Nat) : (a.add i).add j = a.add (i + j) := by
  obtain ⟨b, o, f⟩ := a
  unfold Addr.add
  by_cases h1 : i = 0
  · subst h1; simp
  · by_cases h2 : j = 0
    · subst h2; simp
    · simp [h1, h2, Nat.add_assoc]
theorem Kids.drop {W : World} : ∀ {d : Nat} {l : List Tree} {a : Addr} {c : Nat} (_ : Kids W d l (.slice (some a) l.length c)) (k c2 : Nat), k ≤ l.length → l.length - k ≤ c2 → Kids W d (l.drop k) (.slice (some (a.add (k * 5))) (l.length - k) c2)
  | 0, l, a, c, h, k, c2, hk, hc2 => by
    obtain ⟨rfl, _⟩ := h
    obtain rfl : k = 0 := by simpa using hk
    exact ⟨rfl, _, c2, rfl⟩
  | d + 1, l, a, c, h, k, c2, hk, hc2 => by
    obtain ⟨hl, A', c', hv, h⟩ := h
    injection hv with h1 _ h3
    subst h1; subst h3
    refine ⟨by rw [List.length_drop]; omega, _, c2, by rw [List.length_drop], fun j t hj => ?_⟩
    rw [List.getElem?_drop] at hj
    obtain ⟨a', sl, ha, hb, r⟩ := h _ t hj
    injection ha with ha
    subst ha
    refine ⟨_, sl, rfl, ⟨by rw [show ∀ (x : Addr) j, (x.add j).block = x.block from fun x j => by unfold Addr.add; split <;> rfl]; exact hb.1, by rw [List.length_drop]; exact hc2⟩, ?_⟩
    rw [add_add, ← Nat.add_mul]
    exact r

theorem Kids.cap {W : World} : ∀ {d : Nat} {l : List Tree} {A : Option Addr} {n c : Nat}, Kids W d l (.slice A n c) → 0 < l.length → l.length ≤ c
  | 0, l, A, n, c, h, hp => by
    obtain ⟨rfl, _⟩ := h
    simp at hp
  | d + 1, l, A, n, c, h, hp => by
    obtain ⟨hl, A', c', hv, h⟩ := h
    injection hv with _ _ h3
    subst h3
    obtain ⟨a, sl, _, h2, _⟩ := h 0 _ (List.getElem?_eq_getElem hp)
    exact h2.2

/-- Join of a row of texts. -/
theorem join_row {w : World} {B : Nat} {v : Value} {xs : List ByteArray} (hown : w.ownsRow B 9 1 v xs.length (xs.map Value.string)) (sep : ByteArray) (hlen : (Lib.join (xs.map (·.data.toList)) sep.data.toList).length ≤ 140737488355328) (hN : xs.length ≤ 1000000) :
    Calls Tryd.prog 82 #[v, .string sep] w fun e w' => e = .returned (.string ⟨(Lib.join (xs.map (·.data.toList)) sep.data.toList).toArray⟩) ∧ Below w.heap.size w w' := by
  cases xs with
  | nil =>
    obtain ⟨A, c, rfl⟩ := own_slice hown
    refine (Tryd.strings_Join_none A c sep w).mono ?_
    rintro e w' ⟨rfl, rfl⟩
    exact ⟨by simp [Lib.join, List.intercalate], Below.refl _ _⟩
  | cons x xs =>
    obtain ⟨g, cap, rfl, hg, hc⟩ := World.ownsRow.form hown (by simp)
    have hcap : (x :: xs).length ≤ cap := by
      rcases hown.2 with ⟨h1, _⟩ | ⟨g2, cap2, cur, h1, _, _, h5⟩
      · cases h1
      · injection h1 with h1 h2 h3
        subst h3
        omega
    have hgl : g < w.heap.size := (hown.lt g rfl).2
    exact Tryd.strings_Join g 0 cap (x :: xs) sep w (fun j y hy => by
      have hj : j < (x :: xs).length := (List.getElem?_eq_some_iff.1 hy).1
      have := World.ownsRow.cellAt hown j (by omega)
      rw [Nat.zero_add, this, List.getElem?_map, hy]
      rfl) hgl (by omega) hcap hlen

set_option maxRecDepth 100000 in
set_option maxHeartbeats 2000000 in
theorem list_calls (h : Nat) (l : List Tree) (i : ByteArray) (hc : ∀ u, u ∈ l → ExprT h u i) (hT : (Lib.join (l.map fun u => T h u i.data.toList) [44, 32]).length ≤ 140737488355328) (hN : l.length ≤ 1000000) (d : Nat) (w : World) (sl : Value) (hl : Laid w) (hk : Kids w d l sl) :
    Calls Tryd.prog 83 #[sl, .string i] w fun e w' => e = .returned (.string ⟨(Lib.join (l.map fun u => T h u i.data.toList) [44, 32]).toArray⟩) ∧ Below w.heap.size w w' := by
  obtain ⟨hlen, A, c, rfl⟩ := hk.form
  unfold maxLen at hlen
  have HC := Lib.hid hc
  have HT := Lib.hid hT
  have HL := Lib.hid hl
  have HK := Lib.hid hk
  obtain ⟨i0, hi, hz0, hz1, hz2⟩ := info_parts info_strT
  have HI := Lib.hid (And.intro hi (And.intro hz0 (And.intro hz1 hz2)))
  clear hc hT hl hk hi hz0 hz1 hz2
  go_enter Tryd.func83, Tryd.ntmps83
  go_wp2
  go_loopw [5, 10] (fun v n wr => ∃ k : Nat, k ≤ l.length ∧ n = .int .i64 k ∧ wr.ownsRow w.heap.size 9 1 v k ((l.map fun u => Value.string ⟨(T h u i.data.toList).toArray⟩).take k) ∧ Below w.heap.size w wr) (fun _ n _ => l.length - (intOf n).toNat)
  case atStart => exact ⟨0, by omega, rfl, World.ownsRow_nil _ _ _ _, Below.refl _ _⟩
  case round =>
    obtain ⟨k, hkl, rfl, hown, hb⟩ := hrel
    obtain ⟨A1, c1, rfl⟩ := own_slice hown
    have HO := Lib.hid hown
    have HB := Lib.hid hb
    clear hown hb
    by_cases hlt : k < l.length
    · have hu : l[k]? = some l[k] := List.getElem?_eq_getElem hlt
      generalize l[k] = u at hu
      obtain ⟨p, su, d1, hd1, rfl, hpu, hku, _⟩ := HK.out.at_ hu
      obtain ⟨_, A3, c3, rfl⟩ := hku.form
      have HCU := Lib.hid (HC.out u (List.mem_of_getElem? hu))
      have HKU := Lib.hid hku
      have HNX : Hid ((l.map (fun u => Value.string ⟨(T h u i.data.toList).toArray⟩)).take (k + 1) = (l.map (fun u => Value.string ⟨(T h u i.data.toList).toArray⟩)).take k ++ [.string ⟨(T h u i.data.toList).toArray⟩]) := Lib.hid (by
        rw [List.take_add_one, List.getElem?_map, hu]; rfl)
      obtain ⟨a0, a1, a2, a3, a4⟩ := hpu.below HB.out
      clear hu hpu hku
      go_wp2_with fail
      have hb8 : Below wr.heap.size wr (wr.alloc (.cells #[.int .i64 u.op, .string u.s, .int .i64 u.n, .slice A3 u.l.length c3, .int .i64 u.line] 24)) := (Below.refl _ _).alloc (Nat.le_refl _) _
      have hO8 : (wr.alloc (.cells #[.int .i64 u.op, .string u.s, .int .i64 u.n, .slice A3 u.l.length c3, .int .i64 u.line] 24)).ownsRow w.heap.size 9 1 (.slice A1 k c1) k ((l.map fun u => Value.string ⟨(T h u i.data.toList).toArray⟩).take k) := HO.out.alloc _
      generalize wr.alloc (.cells #[.int .i64 u.op, .string u.s, .int .i64 u.n, .slice A3 u.l.length c3, .int .i64 u.line] 24) = w8 at hb8 hO8 ⊢
      have HB8 := Lib.hid (HB.out.trans (hb8.mono HB.out.size))
      have HO8 := Lib.hid hO8
      clear hb8 hO8 a0 a1 a2 a3 a4
      refine (HCU.out d1 w8 _ (HL.out.below HB8.out) (HKU.out.below HB8.out)).mono ?_
      rintro e w9 ⟨rfl, hb9⟩
      have HO9 := Lib.hid (own_keep HO8.out (fun g hg => hb9.block g (HO8.out.lt g hg).2))
      have HB9 := Lib.hid (HB8.out.trans (hb9.mono HB8.out.size))
      have hsz := HB9.out.size
      clear hb9
      generalize T h u i.data.toList = X at HNX
      go_wp2_with (at_builtin; refine wpList_append_own _ rfl _ _ 85 rfl w.heap.size 9 i0 _ 1 16 Tryd.underlying85 HI.out.1 HI.out.2.1 HI.out.2.2.1 HI.out.2.2.2 rfl (by decide) (.slice A1 k c1) k _ rfl (HO9.out.alloc _) ⟨w9.heap.size, 0, none⟩ 1 1 [.string ⟨X.toArray⟩] rfl rfl (World.news_of_block (cs := #[.string ⟨X.toArray⟩]) (t := 9) (fr := (0, 0)) (Blk.new w9 _ _)) (by simp [Value.oneCell']) ?qc4 ?qc5 ?qc6 ?_)
      case qc4 => simp only [maxLen]; omega
      case qc5 => omega
      case qc6 => simp; omega
      intro v3 w3 hown3 hgrow hnil
      rw [← HNX.out] at hown3
      have HO3 := Lib.hid hown3
      have HB3 := Lib.hid ((HB9.out.alloc HB9.out.size _).grown hgrow (by simp; omega) (fun g hg => (HO9.out.lt g hg).1))
      clear hown3 hgrow hnil
      go_wp2
      go_roundw
      case rel => exact ⟨k + 1, by omega, by go_num, HO3.out, HB3.out⟩
      case measure => simp [intOf]; omega
    · obtain rfl : k = l.length := by omega
      have hdd : decide ((l.length : Int) < (l.length : Int)) = false := by simp
      have hO := HO.out
      rw [List.take_of_length_le (by rw [List.length_map]; exact Nat.le_refl _)] at hO
      have hm : (l.map fun u => Value.string ⟨(T h u i.data.toList).toArray⟩) = (l.map fun u => (⟨(T h u i.data.toList).toArray⟩ : ByteArray)).map Value.string := by rw [List.map_map]; rfl
      have hm2 : (l.map fun u => (⟨(T h u i.data.toList).toArray⟩ : ByteArray)).map (·.data.toList) = l.map fun u => T h u i.data.toList := by rw [List.map_map]; rfl
      have hJ := join_row (w := wr) (B := w.heap.size) (v := .slice A1 l.length c1) (xs := l.map fun u => (⟨(T h u i.data.toList).toArray⟩ : ByteArray)) (by rw [List.length_map, ← hm]; exact hO) ⟨#[44, 32]⟩ (by rw [hm2]; exact HT.out) (by rw [List.length_map]; exact hN)
      rw [hm2] at hJ
      have HJ := Lib.hid hJ
      clear hJ hm hm2 hO
      go_wp2_with fail
      refine HJ.out.mono ?_
      rintro e w3 ⟨rfl, hb3⟩
      have HB3 := Lib.hid (HB.out.trans (hb3.mono HB.out.size))
      clear hb3
      go_wp2
      go_ret
      exact ⟨rfl, HB3.out⟩

end Go.Proofs.YtcidccifnaecaaaDoor
