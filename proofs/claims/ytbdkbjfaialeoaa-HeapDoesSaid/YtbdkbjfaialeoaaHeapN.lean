/- New of package heap. -/
import Derived.Test.YtbdkbjfaialeoaaHeapR
namespace Go.Proofs.Ytbdkbjfaialeoaa
open Go.RowKit Go.Sort

def kCall : ByteArray := ⟨#[99, 97, 108, 108]⟩
def kApply : ByteArray := ⟨#[97, 112, 112, 108, 121]⟩
def noS : ByteArray := ⟨#[]⟩
def ob1 : Ob := ((Ob.fresh ⟨1, 0, 0, 0⟩).put kCall ⟨5, 2, noS⟩).put kApply ⟨5, 3, noS⟩
/-- A heap as it is at first. -/
def first4 : List Ob := [Ob.fresh ⟨0, -1, 0, 0⟩, ob1, Ob.fresh ⟨2, 1, -1, 0⟩, Ob.fresh ⟨3, 1, -2, 0⟩]
def ox4 : List Ox := [⟨0, -1, 0, 0⟩, ⟨1, 0, 0, 0⟩, ⟨2, 1, -1, 0⟩, ⟨3, 1, -2, 0⟩]

def Made (w : World) (w' : World) : Prop := ∃ F, Hp w' w.heap.size w.heap.size F first4 ∧ Below w.heap.size w w' ∧ ∀ k, F k → w.heap.size ≤ k

theorem Hp.empty {w : World} {hb B : Nat} (h : Blk w hb 60 #[.slice none 0 0]) (hB : B ≤ hb) : Hp w B hb (fun k => k = hb) [] := by
  refine ⟨.slice none 0 0, [], ⟨h, World.ownsRow_nil _ _ _ _, ?_, ?_, hB⟩, ?_⟩
  · intro i L o hL
    simp at hL
  · intro i j L M _ hL
    simp at hL
  · intro k
    constructor
    · intro hk
      exact .inl hk
    · rintro (hk | hk | ⟨L, hL, _⟩)
      · exact hk
      · simp [Value.ownBlock] at hk
      · simp at hL

set_option maxHeartbeats 1000000 in
theorem new_calls (w : World) : Calls Try.prog 12 #[] w fun e w' => e = .returned (.pointer (some ⟨w.heap.size, 0, none⟩)) ∧ Made w w' := by
  have hb0 : Hid (Hp ((w.alloc (.cells #[.slice none 0 0] 60)).alloc (.cells (oxCells ox4).toArray 29)) w.heap.size w.heap.size (fun k => k = w.heap.size) []) :=
    Hp.empty ((Blk.new w _ _).alloc _) (Nat.le_refl _)
  have ha0 : Hid (Blk ((w.alloc (.cells #[.slice none 0 0] 60)).alloc (.cells (oxCells ox4).toArray 29)) (w.heap.size + 1) 29 (oxCells ox4).toArray) := by
    have := Blk.new (w.alloc (.cells #[.slice none 0 0] 60)) 29 (oxCells ox4).toArray
    rwa [World.size_alloc] at this
  have hB0 : Hid (Below w.heap.size w ((w.alloc (.cells #[.slice none 0 0] 60)).alloc (.cells (oxCells ox4).toArray 29))) := ((Below.refl _ _).alloc (Nat.le_refl _) _).alloc (by simp) _
  go_enter Try.func12, Try.ntmps12
  go_wp2_with fail
  obtain ⟨W0, hW0⟩ : ∃ W0, (w.alloc (.cells #[.slice none 0 0] 60)).alloc (.cells (oxCells ox4).toArray 29) = W0 := ⟨_, rfl⟩
  have e0 : (oxCells ox4).toArray = #[.int .i64 0, .int .i64 (-1), .int .i64 0, .int .i64 0, .int .i64 1, .int .i64 0, .int .i64 0, .int .i64 0, .int .i64 2, .int .i64 1, .int .i64 (-1), .int .i64 0, .int .i64 3, .int .i64 1, .int .i64 (-2), .int .i64 0] := rfl
  rw [← e0]
  clear e0
  rw [hW0] at hb0 ha0 hB0 ⊢
  clear hW0
  have hs0 := hB0.out.size
  have hs1 := ha0.out.lt
  refine (adds_calls W0 w.heap.size w.heap.size (w.heap.size + 1) 4 _ [] ox4 hb0.out hs0 (by omega) ha0.out (by simp [ox4])).mono ?_
  rintro e W1 ⟨rfl, hG1⟩
  have HG1 : Hid (Grew W0 w.heap.size w.heap.size (fun k => k = w.heap.size) (ox4.map Ob.fresh) W1) := hG1
  clear hG1
  have hz1 : w.heap.size ≤ W1.heap.size := by obtain ⟨_, _, hT, _⟩ := HG1.out; have := hT.size; omega
  obtain ⟨F1, hp1, hT1, hF1⟩ := HG1.out
  obtain ⟨lv1, Ls1, hat1, hfoot1⟩ := hp1
  obtain ⟨g1, c1, L1, hlv1, hL1, hc1, hg1, hO1⟩ := hat1.way (p := 1) (o := Ob.fresh ⟨1, 0, 0, 0⟩) rfl
  have HL1 := Lib.hid hL1
  have HT1 := Lib.hid hT1
  have HF1 := Lib.hid hF1
  have HFo1 := Lib.hid hfoot1
  clear hlv1 hL1 hT1 hF1 hfoot1
  go_wp2_with fail
  refine (put_calls W1 w.heap.size L1 (Ob.fresh ⟨1, 0, 0, 0⟩) ⟨#[99, 97, 108, 108]⟩ ⟨5, 2, ⟨#[]⟩⟩ hO1 (by omega) (by simp [maxLen, ByteArray.size]) (by simp [Ob.fresh])).mono ?_
  intro e W2 hP
  have hG2 := Hp.upd hat1 HFo1.out HL1.out rfl hP
  obtain ⟨rfl, _⟩ := hP
  have HG2 := Lib.hid hG2
  clear hG2 hat1 hO1 hc1 hg1
  have hz2 : w.heap.size ≤ W2.heap.size := by obtain ⟨_, _, hT, _⟩ := HG2.out; have := hT.size; omega
  obtain ⟨F2, hp2, hT2, hF2⟩ := HG2.out
  obtain ⟨lv2, Ls2, hat2, hfoot2⟩ := hp2
  obtain ⟨g2, c2, L2, hlv2, hL2, hc2, hg2, hO2⟩ := hat2.way (p := 1) (o := (Ob.fresh ⟨1, 0, 0, 0⟩).put ⟨#[99, 97, 108, 108]⟩ ⟨5, 2, ⟨#[]⟩⟩) rfl
  have HL2 := Lib.hid hL2
  have HT2 := Lib.hid hT2
  have HF2 := Lib.hid hF2
  have HFo2 := Lib.hid hfoot2
  clear hlv2 hL2 hT2 hF2 hfoot2
  go_wp2_with fail
  refine (put_calls W2 w.heap.size L2 ((Ob.fresh ⟨1, 0, 0, 0⟩).put ⟨#[99, 97, 108, 108]⟩ ⟨5, 2, ⟨#[]⟩⟩) ⟨#[97, 112, 112, 108, 121]⟩ ⟨5, 3, ⟨#[]⟩⟩ hO2 (by omega) (by simp [maxLen, ByteArray.size]) (by simp [Ob.put, Ob.fresh])).mono ?_
  intro e W3 hP
  have hG3 := Hp.upd hat2 HFo2.out HL2.out rfl hP
  obtain ⟨rfl, _⟩ := hP
  have HG3 := Lib.hid hG3
  clear hG3 hat2 hO2 hc2 hg2
  go_wp2
  go_ret
  obtain ⟨F3, hp3, hT3, hF3⟩ := HG3.out
  have f1 : ∀ k, F1 k → w.heap.size ≤ k := fun k hk => by rcases HF1.out k hk with h | h <;> omega
  have f2 : ∀ k, F2 k → w.heap.size ≤ k := fun k hk => by
    rcases HF2.out k hk with h | h
    · exact f1 k h
    · omega
  have f3 : ∀ k, F3 k → w.heap.size ≤ k := fun k hk => by
    rcases hF3 k hk with h | h
    · exact f2 k h
    · omega
  exact ⟨rfl, F3, hp3, ((hB0.out.trans (HT1.out.below hs0 (fun k hk => by omega))).trans (HT2.out.below hz1 f1)).trans (hT3.below hz2 f2), f3⟩

end Go.Proofs.Ytbdkbjfaialeoaa
