/- The forms of all kinds: the map, walked. -/
import Derived.Test.YtcidccifnaecaaaDoorIMap
import Derived.Test.YtcidccifnaecaaaDoorSize
namespace Go.Proofs.YtcidccifnaecaaaDoor
open Go.RowKit

def formV (fn : Nat) (lo hi : Int) : Value := .agg #[.func (.func fn) #[] #[], .int .i64 lo, .int .i64 hi]
/-- What a kind's node has: which test its text passes, how many parts. -/
def formF (k : Int) : Option (Nat × Int × Int) :=
  if k = 1 then some (37, 0, 0)
  else if k = 2 then some (65, 0, 0)
  else if k = 3 then some (66, 0, 0)
  else if k = 4 then some (65, 0, 0)
  else if k = 5 then some (65, 0, 0)
  else if k = 6 then some (65, 0, 0)
  else if k = 7 then some (65, 0, 0)
  else if k = 8 then some (65, 0, 0)
  else if k = 9 then some (65, 0, 0)
  else if k = 10 then some (67, 1, 201)
  else if k = 11 then some (65, 0, 200)
  else if k = 12 then some (66, 1, 1)
  else if k = 13 then some (68, 1, 1)
  else if k = 14 then some (65, 2, 2)
  else if k = 15 then some (65, 1, 200)
  else if k = 16 then some (65, 1, 200)
  else if k = 17 then some (65, 2, 2)
  else if k = 18 then some (69, 2, 2)
  else if k = 19 then some (65, 1, 1)
  else if k = 20 then some (65, 1, 1)
  else if k = 21 then some (65, 2, 2)
  else if k = 22 then some (65, 2, 2)
  else if k = 23 then some (65, 3, 3)
  else if k = 30 then some (37, 0, 1)
  else if k = 31 then some (65, 1, 1)
  else if k = 32 then some (65, 0, 1073741824)
  else if k = 33 then some (65, 2, 3)
  else if k = 34 then some (65, 2, 2)
  else if k = 35 then some (37, 2, 2)
  else if k = 36 then some (65, 0, 1)
  else if k = 37 then some (65, 1, 1)
  else if k = 38 then some (37, 2, 2)
  else if k = 39 then some (65, 0, 0)
  else if k = 40 then some (65, 0, 0)
  else if k = 41 then some (37, 1, 201)
  else none
def formsAt (k : Int) : Option Value := (formF k).map fun x => formV x.1 x.2.1 x.2.2

set_option maxRecDepth 100000 in
set_option maxHeartbeats 4000000 in
theorem forms_calls (w : World) : Calls Tryd.prog 44 #[] w fun e w' => ∃ n f, e = .returned (.map (some w.heap.size)) ∧ IMap Tryd.prog 3 w' w.heap.size n f ∧ (∀ k, f k = formsAt k) ∧ Below w.heap.size w w' := by
  have m0 := IMap.made w Tryd.prog 3
  have g0 : Below w.heap.size w (w.alloc (.map #[] 0)) := (Below.refl _ _).alloc (Nat.le_refl _) _
  have hmm := @run_makeMap Tryd.prog
  obtain ⟨w1, r1, m1, q1⟩ := IMap.store (w := w.alloc (.map #[] 0)) m0 Tryd.underlying3 Tryd.underlying51 (by decide) (s := 1) (by decide) (.agg #[.func (.func 37) #[] #[], .int .i64 0, .int .i64 0])
  have g1 := g0.grown q1 g0.size (fun j e => by injection e with e; omega)
  clear q1 g0
  obtain ⟨w2, r2, m2, q2⟩ := IMap.store m1 Tryd.underlying3 Tryd.underlying51 (by decide) (s := 2) (by decide) (.agg #[.func (.func 65) #[] #[], .int .i64 0, .int .i64 0])
  have g2 := g1.grown q2 g1.size (fun j e => by injection e with e; omega)
  clear q2 g1
  clear m1
  obtain ⟨w3, r3, m3, q3⟩ := IMap.store m2 Tryd.underlying3 Tryd.underlying51 (by decide) (s := 3) (by decide) (.agg #[.func (.func 66) #[] #[], .int .i64 0, .int .i64 0])
  have g3 := g2.grown q3 g2.size (fun j e => by injection e with e; omega)
  clear q3 g2
  clear m2
  obtain ⟨w4, r4, m4, q4⟩ := IMap.store m3 Tryd.underlying3 Tryd.underlying51 (by decide) (s := 4) (by decide) (.agg #[.func (.func 65) #[] #[], .int .i64 0, .int .i64 0])
  have g4 := g3.grown q4 g3.size (fun j e => by injection e with e; omega)
  clear q4 g3
  clear m3
  obtain ⟨w5, r5, m5, q5⟩ := IMap.store m4 Tryd.underlying3 Tryd.underlying51 (by decide) (s := 5) (by decide) (.agg #[.func (.func 65) #[] #[], .int .i64 0, .int .i64 0])
  have g5 := g4.grown q5 g4.size (fun j e => by injection e with e; omega)
  clear q5 g4
  clear m4
  obtain ⟨w6, r6, m6, q6⟩ := IMap.store m5 Tryd.underlying3 Tryd.underlying51 (by decide) (s := 6) (by decide) (.agg #[.func (.func 65) #[] #[], .int .i64 0, .int .i64 0])
  have g6 := g5.grown q6 g5.size (fun j e => by injection e with e; omega)
  clear q6 g5
  clear m5
  obtain ⟨w7, r7, m7, q7⟩ := IMap.store m6 Tryd.underlying3 Tryd.underlying51 (by decide) (s := 7) (by decide) (.agg #[.func (.func 65) #[] #[], .int .i64 0, .int .i64 0])
  have g7 := g6.grown q7 g6.size (fun j e => by injection e with e; omega)
  clear q7 g6
  clear m6
  obtain ⟨w8, r8, m8, q8⟩ := IMap.store m7 Tryd.underlying3 Tryd.underlying51 (by decide) (s := 8) (by decide) (.agg #[.func (.func 65) #[] #[], .int .i64 0, .int .i64 0])
  have g8 := g7.grown q8 g7.size (fun j e => by injection e with e; omega)
  clear q8 g7
  clear m7
  obtain ⟨w9, r9, m9, q9⟩ := IMap.store m8 Tryd.underlying3 Tryd.underlying51 (by decide) (s := 9) (by decide) (.agg #[.func (.func 65) #[] #[], .int .i64 0, .int .i64 0])
  have g9 := g8.grown q9 g8.size (fun j e => by injection e with e; omega)
  clear q9 g8
  clear m8
  obtain ⟨w10, r10, m10, q10⟩ := IMap.store m9 Tryd.underlying3 Tryd.underlying51 (by decide) (s := 10) (by decide) (.agg #[.func (.func 67) #[] #[], .int .i64 1, .int .i64 201])
  have g10 := g9.grown q10 g9.size (fun j e => by injection e with e; omega)
  clear q10 g9
  clear m9
  obtain ⟨w11, r11, m11, q11⟩ := IMap.store m10 Tryd.underlying3 Tryd.underlying51 (by decide) (s := 11) (by decide) (.agg #[.func (.func 65) #[] #[], .int .i64 0, .int .i64 200])
  have g11 := g10.grown q11 g10.size (fun j e => by injection e with e; omega)
  clear q11 g10
  clear m10
  obtain ⟨w12, r12, m12, q12⟩ := IMap.store m11 Tryd.underlying3 Tryd.underlying51 (by decide) (s := 12) (by decide) (.agg #[.func (.func 66) #[] #[], .int .i64 1, .int .i64 1])
  have g12 := g11.grown q12 g11.size (fun j e => by injection e with e; omega)
  clear q12 g11
  clear m11
  obtain ⟨w13, r13, m13, q13⟩ := IMap.store m12 Tryd.underlying3 Tryd.underlying51 (by decide) (s := 13) (by decide) (.agg #[.func (.func 68) #[] #[], .int .i64 1, .int .i64 1])
  have g13 := g12.grown q13 g12.size (fun j e => by injection e with e; omega)
  clear q13 g12
  clear m12
  obtain ⟨w14, r14, m14, q14⟩ := IMap.store m13 Tryd.underlying3 Tryd.underlying51 (by decide) (s := 14) (by decide) (.agg #[.func (.func 65) #[] #[], .int .i64 2, .int .i64 2])
  have g14 := g13.grown q14 g13.size (fun j e => by injection e with e; omega)
  clear q14 g13
  clear m13
  obtain ⟨w15, r15, m15, q15⟩ := IMap.store m14 Tryd.underlying3 Tryd.underlying51 (by decide) (s := 15) (by decide) (.agg #[.func (.func 65) #[] #[], .int .i64 1, .int .i64 200])
  have g15 := g14.grown q15 g14.size (fun j e => by injection e with e; omega)
  clear q15 g14
  clear m14
  obtain ⟨w16, r16, m16, q16⟩ := IMap.store m15 Tryd.underlying3 Tryd.underlying51 (by decide) (s := 16) (by decide) (.agg #[.func (.func 65) #[] #[], .int .i64 1, .int .i64 200])
  have g16 := g15.grown q16 g15.size (fun j e => by injection e with e; omega)
  clear q16 g15
  clear m15
  obtain ⟨w17, r17, m17, q17⟩ := IMap.store m16 Tryd.underlying3 Tryd.underlying51 (by decide) (s := 17) (by decide) (.agg #[.func (.func 65) #[] #[], .int .i64 2, .int .i64 2])
  have g17 := g16.grown q17 g16.size (fun j e => by injection e with e; omega)
  clear q17 g16
  clear m16
  obtain ⟨w18, r18, m18, q18⟩ := IMap.store m17 Tryd.underlying3 Tryd.underlying51 (by decide) (s := 18) (by decide) (.agg #[.func (.func 69) #[] #[], .int .i64 2, .int .i64 2])
  have g18 := g17.grown q18 g17.size (fun j e => by injection e with e; omega)
  clear q18 g17
  clear m17
  obtain ⟨w19, r19, m19, q19⟩ := IMap.store m18 Tryd.underlying3 Tryd.underlying51 (by decide) (s := 19) (by decide) (.agg #[.func (.func 65) #[] #[], .int .i64 1, .int .i64 1])
  have g19 := g18.grown q19 g18.size (fun j e => by injection e with e; omega)
  clear q19 g18
  clear m18
  obtain ⟨w20, r20, m20, q20⟩ := IMap.store m19 Tryd.underlying3 Tryd.underlying51 (by decide) (s := 20) (by decide) (.agg #[.func (.func 65) #[] #[], .int .i64 1, .int .i64 1])
  have g20 := g19.grown q20 g19.size (fun j e => by injection e with e; omega)
  clear q20 g19
  clear m19
  obtain ⟨w21, r21, m21, q21⟩ := IMap.store m20 Tryd.underlying3 Tryd.underlying51 (by decide) (s := 21) (by decide) (.agg #[.func (.func 65) #[] #[], .int .i64 2, .int .i64 2])
  have g21 := g20.grown q21 g20.size (fun j e => by injection e with e; omega)
  clear q21 g20
  clear m20
  obtain ⟨w22, r22, m22, q22⟩ := IMap.store m21 Tryd.underlying3 Tryd.underlying51 (by decide) (s := 22) (by decide) (.agg #[.func (.func 65) #[] #[], .int .i64 2, .int .i64 2])
  have g22 := g21.grown q22 g21.size (fun j e => by injection e with e; omega)
  clear q22 g21
  clear m21
  obtain ⟨w23, r23, m23, q23⟩ := IMap.store m22 Tryd.underlying3 Tryd.underlying51 (by decide) (s := 23) (by decide) (.agg #[.func (.func 65) #[] #[], .int .i64 3, .int .i64 3])
  have g23 := g22.grown q23 g22.size (fun j e => by injection e with e; omega)
  clear q23 g22
  clear m22
  obtain ⟨w24, r24, m24, q24⟩ := IMap.store m23 Tryd.underlying3 Tryd.underlying51 (by decide) (s := 30) (by decide) (.agg #[.func (.func 37) #[] #[], .int .i64 0, .int .i64 1])
  have g24 := g23.grown q24 g23.size (fun j e => by injection e with e; omega)
  clear q24 g23
  clear m23
  obtain ⟨w25, r25, m25, q25⟩ := IMap.store m24 Tryd.underlying3 Tryd.underlying51 (by decide) (s := 31) (by decide) (.agg #[.func (.func 65) #[] #[], .int .i64 1, .int .i64 1])
  have g25 := g24.grown q25 g24.size (fun j e => by injection e with e; omega)
  clear q25 g24
  clear m24
  obtain ⟨w26, r26, m26, q26⟩ := IMap.store m25 Tryd.underlying3 Tryd.underlying51 (by decide) (s := 32) (by decide) (.agg #[.func (.func 65) #[] #[], .int .i64 0, .int .i64 1073741824])
  have g26 := g25.grown q26 g25.size (fun j e => by injection e with e; omega)
  clear q26 g25
  clear m25
  obtain ⟨w27, r27, m27, q27⟩ := IMap.store m26 Tryd.underlying3 Tryd.underlying51 (by decide) (s := 33) (by decide) (.agg #[.func (.func 65) #[] #[], .int .i64 2, .int .i64 3])
  have g27 := g26.grown q27 g26.size (fun j e => by injection e with e; omega)
  clear q27 g26
  clear m26
  obtain ⟨w28, r28, m28, q28⟩ := IMap.store m27 Tryd.underlying3 Tryd.underlying51 (by decide) (s := 34) (by decide) (.agg #[.func (.func 65) #[] #[], .int .i64 2, .int .i64 2])
  have g28 := g27.grown q28 g27.size (fun j e => by injection e with e; omega)
  clear q28 g27
  clear m27
  obtain ⟨w29, r29, m29, q29⟩ := IMap.store m28 Tryd.underlying3 Tryd.underlying51 (by decide) (s := 35) (by decide) (.agg #[.func (.func 37) #[] #[], .int .i64 2, .int .i64 2])
  have g29 := g28.grown q29 g28.size (fun j e => by injection e with e; omega)
  clear q29 g28
  clear m28
  obtain ⟨w30, r30, m30, q30⟩ := IMap.store m29 Tryd.underlying3 Tryd.underlying51 (by decide) (s := 36) (by decide) (.agg #[.func (.func 65) #[] #[], .int .i64 0, .int .i64 1])
  have g30 := g29.grown q30 g29.size (fun j e => by injection e with e; omega)
  clear q30 g29
  clear m29
  obtain ⟨w31, r31, m31, q31⟩ := IMap.store m30 Tryd.underlying3 Tryd.underlying51 (by decide) (s := 37) (by decide) (.agg #[.func (.func 65) #[] #[], .int .i64 1, .int .i64 1])
  have g31 := g30.grown q31 g30.size (fun j e => by injection e with e; omega)
  clear q31 g30
  clear m30
  obtain ⟨w32, r32, m32, q32⟩ := IMap.store m31 Tryd.underlying3 Tryd.underlying51 (by decide) (s := 38) (by decide) (.agg #[.func (.func 37) #[] #[], .int .i64 2, .int .i64 2])
  have g32 := g31.grown q32 g31.size (fun j e => by injection e with e; omega)
  clear q32 g31
  clear m31
  obtain ⟨w33, r33, m33, q33⟩ := IMap.store m32 Tryd.underlying3 Tryd.underlying51 (by decide) (s := 39) (by decide) (.agg #[.func (.func 65) #[] #[], .int .i64 0, .int .i64 0])
  have g33 := g32.grown q33 g32.size (fun j e => by injection e with e; omega)
  clear q33 g32
  clear m32
  obtain ⟨w34, r34, m34, q34⟩ := IMap.store m33 Tryd.underlying3 Tryd.underlying51 (by decide) (s := 40) (by decide) (.agg #[.func (.func 65) #[] #[], .int .i64 0, .int .i64 0])
  have g34 := g33.grown q34 g33.size (fun j e => by injection e with e; omega)
  clear q34 g33
  clear m33
  obtain ⟨w35, r35, m35, q35⟩ := IMap.store m34 Tryd.underlying3 Tryd.underlying51 (by decide) (s := 41) (by decide) (.agg #[.func (.func 37) #[] #[], .int .i64 1, .int .i64 201])
  have g35 := g34.grown q35 g34.size (fun j e => by injection e with e; omega)
  clear q35 g34
  clear m34
  have M := Lib.hid m35
  have G := Lib.hid g35
  clear m35 g35 m0
  go_enter Tryd.func44, Tryd.ntmps44
  go_wp2
  go_ret
  refine ⟨_, _, rfl, M.out, fun k => ?_, G.out⟩
  by_cases h1 : k = 1
  · subst h1; rfl
  by_cases h2 : k = 2
  · subst h2; rfl
  by_cases h3 : k = 3
  · subst h3; rfl
  by_cases h4 : k = 4
  · subst h4; rfl
  by_cases h5 : k = 5
  · subst h5; rfl
  by_cases h6 : k = 6
  · subst h6; rfl
  by_cases h7 : k = 7
  · subst h7; rfl
  by_cases h8 : k = 8
  · subst h8; rfl
  by_cases h9 : k = 9
  · subst h9; rfl
  by_cases h10 : k = 10
  · subst h10; rfl
  by_cases h11 : k = 11
  · subst h11; rfl
  by_cases h12 : k = 12
  · subst h12; rfl
  by_cases h13 : k = 13
  · subst h13; rfl
  by_cases h14 : k = 14
  · subst h14; rfl
  by_cases h15 : k = 15
  · subst h15; rfl
  by_cases h16 : k = 16
  · subst h16; rfl
  by_cases h17 : k = 17
  · subst h17; rfl
  by_cases h18 : k = 18
  · subst h18; rfl
  by_cases h19 : k = 19
  · subst h19; rfl
  by_cases h20 : k = 20
  · subst h20; rfl
  by_cases h21 : k = 21
  · subst h21; rfl
  by_cases h22 : k = 22
  · subst h22; rfl
  by_cases h23 : k = 23
  · subst h23; rfl
  by_cases h30 : k = 30
  · subst h30; rfl
  by_cases h31 : k = 31
  · subst h31; rfl
  by_cases h32 : k = 32
  · subst h32; rfl
  by_cases h33 : k = 33
  · subst h33; rfl
  by_cases h34 : k = 34
  · subst h34; rfl
  by_cases h35 : k = 35
  · subst h35; rfl
  by_cases h36 : k = 36
  · subst h36; rfl
  by_cases h37 : k = 37
  · subst h37; rfl
  by_cases h38 : k = 38
  · subst h38; rfl
  by_cases h39 : k = 39
  · subst h39; rfl
  by_cases h40 : k = 40
  · subst h40; rfl
  by_cases h41 : k = 41
  · subst h41; rfl
  simp only [formsAt, formF, h1, h2, h3, h4, h5, h6, h7, h8, h9, h10, h11, h12, h13, h14, h15, h16, h17, h18, h19, h20, h21, h22, h23, h30, h31, h32, h33, h34, h35, h36, h37, h38, h39, h40, h41, if_false, Option.map_none]

end Go.Proofs.YtcidccifnaecaaaDoor
