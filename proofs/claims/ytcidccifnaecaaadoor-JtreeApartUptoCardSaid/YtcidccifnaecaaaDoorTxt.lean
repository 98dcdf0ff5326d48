/- Texts of trees: join, a part's text by the closure at. -/
import Derived.Test.YtcidccifnaecaaaDoorQuote
import Derived.Test.YtcidccifnaecaaaDoorRight
import Derived.Deep.RegionHeld3
namespace Go.Proofs.YtcidccifnaecaaaDoor
open Go.RowKit Go.Sort

theorem join_flat : ∀ (l : List (List UInt8)), Lib.join l [] = l.flatten
  | [] => rfl
  | [x] => by simp [Lib.join, List.intercalate]
  | x :: y :: l => by
    have := join_flat (y :: l)
    simp only [Lib.join, List.intercalate] at this ⊢
    simp only [List.intersperse, List.flatten_cons, List.nil_append] at this ⊢
    rw [this]

/-- join of an array of texts that has just been made. -/
theorem join_at (w0 : World) (xs : List ByteArray) (hN : xs.length ≤ 1000) (hlen : (xs.map (·.data.toList)).flatten.length ≤ 140737488355328) :
    Calls Tryd.prog 75 #[.slice (some ⟨w0.heap.size, 0, none⟩) xs.length xs.length] (w0.alloc (.cells ((xs.map Value.string).toArray) 9))
      fun e w' => e = .returned (.string ⟨((xs.map (·.data.toList)).flatten).toArray⟩) ∧ Below w0.heap.size w0 w' := by
  have HB := Lib.hid ((Below.refl w0.heap.size w0).alloc (Nat.le_refl _) (.cells ((xs.map Value.string).toArray) 9))
  have HJ := Lib.hid (Tryd.strings_Join w0.heap.size 0 xs.length xs ⟨#[]⟩ (w0.alloc (.cells ((xs.map Value.string).toArray) 9))
    (fun j x hx => by
      rw [cell_of_row _ _ _ _ _ (0, 0) (heap_alloc_new _ _)]
      simp [hx]) (by simp) (by omega) (Nat.le_refl _) (by rw [show (⟨#[]⟩ : ByteArray).data.toList = [] from rfl, join_flat]; exact hlen))
  have HJF := Lib.hid (join_flat (xs.map (·.data.toList)))
  generalize w0.alloc (.cells ((xs.map Value.string).toArray) 9) = w1 at HB HJ ⊢
  go_enter Tryd.func75, Tryd.ntmps75
  go_wp2_with fail
  refine HJ.out.mono ?_
  rintro e w' ⟨rfl, hb⟩
  have HB' := Lib.hid (HB.out.trans (hb.mono HB.out.size))
  clear hb
  go_wp2
  go_ret
  exact ⟨by rw [← HJF.out]; rfl, HB'.out⟩

/-- What the program's expr tells of a tree. -/
def ExprT (h : Nat) (u : Tree) (i : ByteArray) : Prop := ∀ (d : Nat) (w : World) (sl : Value), Laid w → Kids w d u.l sl →
  Calls Tryd.prog 51 #[.agg #[.int .i64 u.op, .string u.s, .int .i64 u.n, sl, .int .i64 u.line], .string i] w fun e w' => e = .returned (.string ⟨(T h u i.data.toList).toArray⟩) ∧ Below w.heap.size w w'

/-- What expr and stmt hold in boxes: the tree, the margin. -/
structure Held (w : World) (nb ib : Nat) (t : Tree) (A : Option Addr) (c : Nat) (i : ByteArray) : Prop where
  node : Blk5 w nb t.op t.s t.n (.slice A t.l.length c) t.line
  margin : w.cell? ⟨ib, 0, none⟩ = some (.string i)
theorem Held.below {w w' : World} {nb ib : Nat} {t : Tree} {A : Option Addr} {c : Nat} {i : ByteArray} (h : Held w nb ib t A c i) (hb : Below w.heap.size w w') : Held w' nb ib t A c i :=
  ⟨h.node.keep hb, cell_bel hb h.margin⟩

set_option maxRecDepth 100000 in
set_option maxHeartbeats 1000000 in
theorem at_calls (w : World) (nb ib : Nat) (t : Tree) (A : Option Addr) (c : Nat) (i : ByteArray) (hh : Held w nb ib t A c i) (hl : Laid w) (d : Nat) (hk : Kids w d t.l (.slice A t.l.length c)) (k : Nat) (u : Tree) (hu : t.l[k]? = some u) (h : Nat) (hc : ExprT h u i) :
    Calls Tryd.prog 78 #[.int .i64 k, .pointer (some ⟨nb, 0, none⟩), .pointer (some ⟨ib, 0, none⟩)] w fun e w' => e = .returned (.string ⟨(T h u i.data.toList).toArray⟩) ∧ Below w.heap.size w w' := by
  obtain ⟨p, su, d1, _, rfl, hpu, hku, _⟩ := hk.at_ hu
  obtain ⟨_, A3, c3, rfl⟩ := hku.form
  have hkl : k < t.l.length := (List.getElem?_eq_some_iff.1 hu).1
  obtain ⟨c0, c1, c2, c3', c4⟩ := hh.node
  have m0 := hh.margin
  obtain ⟨a0, a1, a2, a3, a4⟩ := hpu
  have hd : Below w.heap.size w w.drew := (Below.refl _ _).drew
  have HC := Lib.hid (hc d1 w.drew _ (hl.below hd) (hku.below hd))
  clear hku hd hc hh hk hl hu
  go_enter Tryd.func78, Tryd.ntmps78
  go_wp2
  go_still_tail 6, (by kernel_rfl)
  change wpList _ _ _ _ _ w.drew
  go_wp2_with fail
  refine HC.out.mono ?_
  rintro e w' ⟨rfl, hb⟩
  have HB := Lib.hid ((Below.refl _ _).drew.trans hb : Below w.heap.size w w')
  clear hb
  go_wp2
  go_ret
  exact ⟨rfl, HB.out⟩

set_option maxRecDepth 100000 in
set_option maxHeartbeats 1000000 in
theorem ats_calls (w : World) (nb ib : Nat) (t : Tree) (A : Option Addr) (c : Nat) (i : ByteArray) (hh : Held w nb ib t A c i) (hl : Laid w) (d : Nat) (hk : Kids w d t.l (.slice A t.l.length c)) (k : Nat) (u : Tree) (hu : t.l[k]? = some u) (h : Nat) (hc : ExprT h u i) :
    Calls Tryd.prog 102 #[.int .i64 k, .pointer (some ⟨nb, 0, none⟩), .pointer (some ⟨ib, 0, none⟩)] w fun e w' => e = .returned (.string ⟨(T h u i.data.toList).toArray⟩) ∧ Below w.heap.size w w' := by
  obtain ⟨p, su, d1, _, rfl, hpu, hku, _⟩ := hk.at_ hu
  obtain ⟨_, A3, c3, rfl⟩ := hku.form
  have hkl : k < t.l.length := (List.getElem?_eq_some_iff.1 hu).1
  obtain ⟨c0, c1, c2, c3', c4⟩ := hh.node
  have m0 := hh.margin
  obtain ⟨a0, a1, a2, a3, a4⟩ := hpu
  have hd : Below w.heap.size w w.drew := (Below.refl _ _).drew
  have HC := Lib.hid (hc d1 w.drew _ (hl.below hd) (hku.below hd))
  clear hku hd hc hh hk hl hu
  go_enter Tryd.func102, Tryd.ntmps102
  go_wp2
  go_still_tail 6, (by kernel_rfl)
  change wpList _ _ _ _ _ w.drew
  go_wp2_with fail
  refine HC.out.mono ?_
  rintro e w' ⟨rfl, hb⟩
  have HB := Lib.hid ((Below.refl _ _).drew.trans hb : Below w.heap.size w w')
  clear hb
  go_wp2
  go_ret
  exact ⟨rfl, HB.out⟩

end Go.Proofs.YtcidccifnaecaaaDoor
