/- The walk of HeapHides: true. -/
import Derived.Test.YtbdkbjfaialeoaaCallsA
import Derived.Test.YtbdkbjfaialeoaaKeeps
namespace Go.Proofs.Ytbdkbjfaialeoaa
open Go.RowKit Go.Sort

def num (n : Int) : Vl := ⟨3, n, ⟨#[]⟩⟩
theorem num_right (n : Int) : right (num n).kind (num n).n (num n).s = true := by
  simp [num, right]
def h1 (key : ByteArray) (a : Int) : List Ob := two4.set 4 ((Ob.fresh ⟨0, 0, 0, 0⟩).put key (num a))
def h2 (key : ByteArray) (a b : Int) : List Ob := (h1 key a).set 5 ((Ob.fresh ⟨0, 4, 0, 0⟩).put key (num b))
def h3 (key : ByteArray) (a b c : Int) : List Ob := (h2 key a b).set 4 (((Ob.fresh ⟨0, 0, 0, 0⟩).put key (num a)).put key (num c))
theorem e1 (key : ByteArray) (a : Int) : putT two4 4 key (num a) = (0, h1 key a) := putT_ok (p := 4) rfl (num_right a) (by simp [num])
theorem e2 (key : ByteArray) (a b : Int) : putT (h1 key a) 5 key (num b) = (0, h2 key a b) := putT_ok (p := 5) rfl (num_right b) (by simp [num])
theorem e3 (key : ByteArray) (a b c : Int) : putT (h2 key a b) 4 key (num c) = (0, h3 key a b c) := putT_ok (p := 4) rfl (num_right c) (by simp [num])
theorem t3 (key : ByteArray) (a b c : Int) : Tied (h3 key a b c) := by
  have := tied_put (tied_put (tied_put tied_two 4 key (num a)) 5 key (num b)) 4 key (num c)
  rwa [e1, e2, e3] at this
theorem s1 (key : ByteArray) (a : Int) : Small 3 (h1 key a) := by
  have := small_put small_two 4 key (num a)
  rwa [e1] at this
theorem s2 (key : ByteArray) (a b : Int) : Small 4 (h2 key a b) := by
  have := small_put (s1 key a) 5 key (num b)
  rwa [e2] at this
theorem s3 (key : ByteArray) (a b c : Int) : Small 5 (h3 key a b c) := by
  have := small_put (s2 key a b) 4 key (num c)
  rwa [e3] at this
theorem g5 (key : ByteArray) (a b c : Int) : getT (h3 key a b c) 5 key = some (num b) := by
  have e : chainT (h3 key a b c) 5 = [5, 4, 0] := rfl
  have e5 : (h3 key a b c)[5]? = some ((Ob.fresh ⟨0, 4, 0, 0⟩).put key (num b)) := rfl
  simp only [getT, e, List.findSome?_cons, e5, Option.bind_some, Ob.put, if_pos]
theorem g4 (key : ByteArray) (a b c : Int) : getT (h3 key a b c) 4 key = some (num c) := by
  have e : chainT (h3 key a b c) 4 = [4, 0] := rfl
  have e4 : (h3 key a b c)[4]? = some (((Ob.fresh ⟨0, 0, 0, 0⟩).put key (num a)).put key (num c)) := rfl
  simp only [getT, e, List.findSome?_cons, e4, Option.bind_some, Ob.put, if_pos]
theorem a5 (key : ByteArray) (a b c : Int) : allT (h3 key a b c) 5 = [key] := by
  have e : chainT (h3 key a b c) 5 = [5, 4, 0] := rfl
  have k5 : keysAt (h3 key a b c) 5 = [key] := by
    show ((Ob.fresh ⟨0, 4, 0, 0⟩).put key (num b)).keys = _
    simp [Ob.put, Ob.fresh]
  have k4 : keysAt (h3 key a b c) 4 = [key] := by
    show (((Ob.fresh ⟨0, 0, 0, 0⟩).put key (num a)).put key (num c)).keys = _
    simp [Ob.put, Ob.fresh]
  have k0 : keysAt (h3 key a b c) 0 = [] := rfl
  simp [allT, e, allK, k5, k4, k0, addAll, addK, memS]

set_option maxRecDepth 100000 in
set_option maxHeartbeats 4000000 in
theorem hides_arg (w : World) (key : ByteArray) (hk : key.size ≤ maxLen) (a b c : Int) :
    Calls Try.prog 5 #[.string key, .int .i64 a, .int .i64 b, .int .i64 c] w fun e w' => e = .returned (.bool true) ∧ Below w.heap.size w w' := by
  have HK := Lib.hid hk
  clear hk
  go_enter Try.func5, Try.ntmps5
  go_wp2_with fail
  refine (shown_calls w).mono ?_
  rintro e w1 ⟨rfl, hB⟩
  go_wp2_with fail
  refine (new_st w w1 hB).mono ?_
  rintro e w2 ⟨rfl, F, hs, -, -⟩
  have HS := Lib.hid hs
  clear hs hB
  go_wp2_with fail
  refine (alloc_ok w2 w1.heap.size w1.heap.size F first4 ⟨0, 0, 0, 0⟩ HS.out.hp HS.out.hbw (by decide) (.inr ⟨by decide, by decide⟩)).mono ?_
  rintro e w3 ⟨rfl, hg⟩
  rw [show ((first4.length : Nat) : Int) = 4 from rfl]
  obtain ⟨F3, hs3, -, -⟩ := HS.out.grew hg
  clear hg HS
  have HS := Lib.hid hs3
  clear hs3 F
  go_wp2_with fail
  refine (alloc_ok w3 w1.heap.size w1.heap.size F3 _ ⟨0, 4, 0, 0⟩ HS.out.hp HS.out.hbw (by decide) (.inr ⟨by decide, by decide⟩)).mono ?_
  rintro e w4 ⟨rfl, hg⟩
  rw [show (((first4 ++ [Ob.fresh ⟨0, 0, 0, 0⟩]).length : Nat) : Int) = 5 from rfl]
  obtain ⟨F4, hs4, -, -⟩ := HS.out.grew hg
  clear hg HS
  have HS : Hid (St w w4 w1.heap.size F4 two4) := Lib.hid hs4
  clear hs4 F3
  go_wp2_with fail
  refine (hput_calls w4 w1.heap.size w1.heap.size F4 two4 4 key (num a) HS.out.hp HS.out.hbw HK.out (small_two.mono (by decide))).mono ?_
  rintro e w5 ⟨rfl, hg⟩
  rw [e1] at hg ⊢
  obtain ⟨F5, hs5, -, -⟩ := HS.out.grew hg
  clear hg HS
  have HS := Lib.hid hs5
  clear hs5 F4
  go_wp2_with fail
  refine (hput_calls w5 w1.heap.size w1.heap.size F5 (h1 key a) 5 key (num b) HS.out.hp HS.out.hbw HK.out ((s1 key a).mono (by decide))).mono ?_
  rintro e w6 ⟨rfl, hg⟩
  rw [e2] at hg ⊢
  obtain ⟨F6, hs6, -, -⟩ := HS.out.grew hg
  clear hg HS
  have HS := Lib.hid hs6
  clear hs6 F5
  go_wp2_with fail
  refine (hput_calls w6 w1.heap.size w1.heap.size F6 (h2 key a b) 4 key (num c) HS.out.hp HS.out.hbw HK.out ((s2 key a b).mono (by decide))).mono ?_
  rintro e w7 ⟨rfl, hg⟩
  rw [e3] at hg ⊢
  obtain ⟨F7, hs7, -, -⟩ := HS.out.grew hg
  clear hg HS
  have HS := Lib.hid hs7
  clear hs7 F6
  go_wp2_with fail
  refine (hget_calls w7 w1.heap.size w1.heap.size F7 _ 5 key HS.out.hp (t3 key a b c) HK.out).mono ?_
  rintro e w8 ⟨rfl, hb8⟩
  rw [g5, told_some]
  replace HS := Lib.hid (HS.out.below hb8)
  clear hb8
  dsimp only [num]
  go_wp2_with fail
  obtain ⟨w9, hw9⟩ : ∃ w9, w8.alloc (.cells #[.int .i64 3, .int .i64 b, .string ⟨#[]⟩] 33) = w9 := ⟨_, rfl⟩
  have bb : Blk w9 w8.heap.size 33 #[.int .i64 3, .int .i64 b, .string ⟨#[]⟩] := by rw [← hw9]; exact Blk.new _ _ _
  have hb9 : Below w8.heap.size w8 w9 := by rw [← hw9]; exact (Below.refl _ _).alloc (Nat.le_refl _) _
  rw [hw9]
  clear hw9
  replace HS := Lib.hid (HS.out.below hb9)
  clear hb9
  refine (hget_calls w9 w1.heap.size w1.heap.size F7 _ 4 key HS.out.hp (t3 key a b c) HK.out).mono ?_
  rintro e wA ⟨rfl, hbA⟩
  rw [g4, told_some]
  replace HS := Lib.hid (HS.out.below hbA)
  replace bb := bb.keep (hbA.block _ bb.lt)
  clear hbA
  dsimp only [num]
  have c1 := bb.cell 1
  have hl := bb.lt
  go_wp2_with fail
  clear c1 hl bb
  replace HS := Lib.hid (HS.out.below ((Below.refl _ _).alloc (Nat.le_refl _) (.cells #[.int .i64 3, .int .i64 c, .string ⟨#[]⟩] 33)))
  generalize wA.alloc (.cells #[.int .i64 3, .int .i64 c, .string ⟨#[]⟩] 33) = wB at HS ⊢
  refine (hall_calls wB w1.heap.size w1.heap.size F7 _ 5 HS.out.hp (t3 key a b c) ((s3 key a b c).mono (by decide)) (by simp [h3, h2, h1, two4, first4])).mono ?_
  rintro e wI ⟨u, rfl, hu, hbI⟩
  rw [a5] at hu
  replace HS := Lib.hid (HS.out.below hbI)
  have hsl : Hid (SlR (wI.alloc (.cells #[.string key] 9)) u ([key].map Value.string)) := (SlR.of_own hu).below ((Below.refl _ _).alloc (Nat.le_refl _) _)
  clear hu hbI
  go_wp2_with fail
  refine (same_calls _ u (.slice (some ⟨wI.heap.size, 0, none⟩) 1 1) [key] [key] hsl.out (SlR.block (xs := [.string key]) (e := 9) (Blk.new _ _ _)) (by simp [maxLen])).mono ?_
  rintro e wJ ⟨rfl, hbJ⟩
  rw [show sameS [key] [key] = true from by simp [sameS]]
  replace HS := Lib.hid (HS.out.below (((Below.refl _ _).alloc (Nat.le_refl _) _).trans (hbJ.mono (by simp))))
  clear hbJ
  go_wp2_with fail
  go_ret
  exact ⟨rfl, HS.out.bel⟩

end Go.Proofs.Ytbdkbjfaialeoaa
