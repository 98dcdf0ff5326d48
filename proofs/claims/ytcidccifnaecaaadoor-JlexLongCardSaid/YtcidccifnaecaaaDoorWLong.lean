/- The walk of JlexLong: true. -/
import Derived.Test.YtcidccifnaecaaaDoorLexJ
namespace Go.Proofs.YtcidccifnaecaaaDoor
open Go.RowKit Go.Sort

theorem info_u8 : (Tryd.prog.info? 5).map (fun i => (i.zero, i.size, i.bytes)) = some (some (.int .u8 0), 1, 1) := by kernel_rfl
/-- A row of one byte again and again, as a text. -/
theorem conv_rep {W : World} {B g n cap : Nat} {c : UInt8} (h : W.ownsRow B 5 1 (.slice (some ⟨g, 0, none⟩) n cap) n (List.replicate n (.int .u8 (c.toNat : Int)))) :
    (convert 37 9 (.slice (some ⟨g, 0, none⟩) n cap)).run Tryd.prog W = .ok (.string ⟨(List.replicate n c).toArray⟩) W := by
  have hr := run_convert_bytes_back (P := Tryd.prog) W 37 9 5 ⟨g, 0, none⟩ cap (List.replicate n c) Tryd.underlying37 Tryd.underlying5 Tryd.underlying9 (fun j hj => by
    have hjn : j < n := by simpa using hj
    have h1 := World.ownsRow.cellAt h j (by omega)
    rw [show (⟨g, 0, none⟩ : Addr).add j = ⟨g, j, none⟩ by unfold Addr.add; split <;> simp_all]
    rw [h1, List.getElem?_replicate, if_pos hjn]
    simp)
  rw [List.length_replicate] at hr
  exact hr

theorem wpList_make_lit {P : Program} (w : World) {ops : Array Oper} {rest : List Oper} {a : Act} {Q : Exit → Act → World → Prop} {d : Option Tmp} {ty : TypeId} {ps : String} {af : Array Edge} {t : TypeId} {kl kc : IntKind} {C : Int}
    (base : Nat) (e : TypeId) (i : TypeInfo) (z : Value) (size : Nat) (h1 : P.underlying t = some (.slice e)) (h2 : P.info? e = some i) (h3 : i.zero = some z) (h4 : i.size = size)
    (n : Nat) (hC : C = (n : Int)) (b2 : i.bytes * n ≤ 281474976710656) (b3 : n ≤ maxLen) (b4 : base ≤ w.heap.size)
    (hK : ∀ w', w'.ownsRow base e size (.slice (some ⟨w.heap.size, 0, none⟩) 0 n) 0 [] → w.grownBy w' none → wpList P ops Q rest (a.put d (.slice (some ⟨w.heap.size, 0, none⟩) 0 n)) w') :
    wpList P ops Q ({ dst := d, op := .makeSlice t (.const (.int kl 0)) (.const (.int kc C)), type := ty, pos := ps, after := af, guard := none } :: rest) a w :=
  wpList_make_own w rfl _ _ t rfl base e i z size h1 h2 h3 h4 kl kc C n rfl rfl hC b2 b3 b4 hK

set_option maxRecDepth 100000 in
set_option maxHeartbeats 4000000 in
theorem wlong (w : World) (n : Int) (m : Int) (hl : LaidJ w) :
    Calls Tryd.prog 12 #[.int .i64 n, .int .i64 m] w fun e w' => e = .returned (.bool true) ∧ Below w.heap.size w w' := by
  have HL := Lib.hid hl
  clear hl
  go_enter Tryd.func12, Tryd.ntmps12
  go_wp2_with fail
  refine (shownJ_calls w HL.out).mono ?_
  rintro e w1 ⟨rfl, hb1⟩
  have HB1 := Lib.hid hb1
  clear hb1
  by_cases hn1 : n < 65000
  · go_wp2
    go_ret
    exact ⟨rfl, HB1.out⟩
  by_cases hn2 : 70000 < n
  · have hn1' : 65000 ≤ n := by omega
    go_wp2
    go_ret
    exact ⟨rfl, HB1.out⟩
  by_cases hm1 : m < 19990
  · have hn1' : 65000 ≤ n := by omega
    have hn2' : n ≤ 70000 := by omega
    go_wp2
    go_ret
    exact ⟨rfl, HB1.out⟩
  by_cases hm2 : 20010 < m
  · have hn1' : 65000 ≤ n := by omega
    have hn2' : n ≤ 70000 := by omega
    have hm1' : 19990 ≤ m := by omega
    go_wp2
    go_ret
    exact ⟨rfl, HB1.out⟩
  obtain ⟨N, rfl⟩ : ∃ N : Nat, n = N := ⟨n.toNat, by omega⟩
  obtain ⟨M, rfl⟩ : ∃ M : Nat, m = M := ⟨m.toNat, by omega⟩
  have hn1' : (65000 : Int) ≤ (N : Int) := by omega
  have hn2' : (N : Int) ≤ 70000 := by omega
  have hm1' : (19990 : Int) ≤ (M : Int) := by omega
  have hm2' : (M : Int) ≤ 20010 := by omega
  clear hn1 hn2 hm1 hm2
  obtain ⟨i0, hi, hz0, hz3, hz4⟩ := info_parts info_u8
  obtain ⟨cp, hcp⟩ : ∃ cp : Nat, cp = 70000 := ⟨_, rfl⟩
  obtain ⟨cq, hcq⟩ : ∃ cq : Nat, cq = 20010 := ⟨_, rfl⟩
  have HCP := Lib.hid hcp
  have HCQ := Lib.hid hcq
  have hNc : N ≤ cp := by omega
  have hMc : M ≤ cq := by omega
  clear hcp hcq
  have HI := Lib.hid (And.intro hi (And.intro hz0 (And.intro hz3 hz4)))
  clear hi hz0 hz3 hz4
  go_wp2_with (at_make; go_loud (refine wpList_make_lit _ w1.heap.size 5 i0 _ 1 Tryd.underlying37 HI.out.1 HI.out.2.1 HI.out.2.2.1 cp ?mc ?mb ?ml (Nat.le_refl _) ?_))
  case mc => have := HCP.out; omega
  case mb => rw [HI.out.2.2.2]; have := HCP.out; omega
  case ml => have := HCP.out; simp only [maxLen]; omega
  intro w2 hown2 hg2
  have HO2 := Lib.hid hown2
  have HB2 : Hid (Below w1.heap.size w1 w2) := Lib.hid ⟨hg2.os, hg2.tape, hg2.output, hg2.size, fun k hk => hg2.block k hk (by simp)⟩
  clear hown2 hg2
  go_wp2
  go_loopw [6, 7] (fun v i wr => ∃ k : Nat, k ≤ N ∧ v = .slice (some ⟨w1.heap.size, 0, none⟩) k cp ∧ i = .int .i64 k ∧ wr.ownsRow w1.heap.size 5 1 (.slice (some ⟨w1.heap.size, 0, none⟩) k cp) k (List.replicate k (.int .u8 97)) ∧ Below w1.heap.size w1 wr) (fun _ i _ => N - (intOf i).toNat)
  case atStart => exact ⟨0, by omega, rfl, rfl, HO2.out, HB2.out⟩
  case round =>
    obtain ⟨k, hk, rfl, rfl, hown, hbw⟩ := hrel
    have HO := Lib.hid hown
    have HB := Lib.hid hbw
    clear hown hbw HO2 HB2
    by_cases hlt : k < N
    · have hsz := HB.out.size
      go_wp2_with (at_builtin; refine wpList_append_fits _ rfl _ _ 37 rfl w1.heap.size 5 i0 1 Tryd.underlying37 HI.out.1 HI.out.2.2.1 w1.heap.size k cp _ rfl (HO.out.alloc _) ⟨wr.heap.size, 0, none⟩ 1 1 [.int .u8 97] rfl rfl (World.news_of_block (cs := #[.int .u8 97]) (t := 5) (fr := (0, 0)) (Blk.new wr _ _)) (by simp [Value.oneCell']) ?rm ?_)
      case rm => omega
      intro w3 hown3 hg3
      have hown4 : w3.ownsRow w1.heap.size 5 1 (.slice (some ⟨w1.heap.size, 0, none⟩) (k + 1) cp) (k + 1) (List.replicate (k + 1) (.int .u8 97)) := by
        rw [List.replicate_succ']
        exact hown3
      have HO4 := Lib.hid hown4
      have HB4 := Lib.hid ((HB.out.alloc HB.out.size _).grown hg3 (by simp; omega) (fun j e => by injection e with e; omega))
      clear hown3 hown4 hg3
      go_wp2
      go_roundw
      case rel => exact ⟨k + 1, by omega, rfl, by go_num, HO4.out, HB4.out⟩
      case measure => simp [intOf]; omega
    · have hkN : N = k := by omega
      subst hkN
      have hcv := conv_rep (c := 97) HO.out
      have HA : Hid (∃ (toks : List Tl) (e0 : Int), lexF (List.replicate N 97) = (toks, 0, e0) ∧ ((65536 < N ∧ e0 = 20) ∨ (N ≤ 65536 ∧ e0 = 0))) := Lib.hid (by
        by_cases h9 : 65536 < N
        · exact ⟨[], 20, lex_long (by rw [List.length_replicate]; exact h9), .inl ⟨h9, rfl⟩⟩
        · obtain ⟨⟨tk, a9, e9⟩, hz⟩ : ∃ z, lexF (List.replicate N 97) = z := ⟨_, rfl⟩
          have h2 := lex_as (n := N) (by omega) (by omega)
          rw [hz] at h2
          injection h2 with h3 h4
          subst h3
          subst h4
          exact ⟨tk, 0, hz, .inr ⟨by omega, rfl⟩⟩)
      have HW := Lib.hid (HB1.out.trans (HB.out.mono HB1.out.size))
      obtain ⟨o, ho⟩ : ∃ o : ByteArray, (⟨(List.replicate N 97).toArray⟩ : ByteArray) = o := ⟨_, rfl⟩
      have hol : o.data.toList = List.replicate N 97 := by rw [← ho]
      have hos : o.size = N := by rw [size_len, hol]; simp
      rw [ho] at hcv
      rw [← hol] at HA
      have HX := Lib.hid (fun w9 (h9 : LaidJ w9) => lex_calls w9 h9 o (by unfold maxLen; omega))
      clear ho hol hos
      obtain ⟨toks, e0, hlf, hor⟩ := HA.out
      have HLF := Lib.hid hlf
      have HOR := Lib.hid hor
      clear hlf hor HA
      have hdd : decide ((N : Int) < (N : Int)) = false := by simp
      go_wp2_with fail
      refine (HX.out wr (HL.out.below HW.out)).mono ?_
      rintro e w5 ⟨A5, c5, rfl, _, hb5⟩
      rw [HLF.out]
      have HB5 := Lib.hid (HW.out.trans (hb5.mono HW.out.size))
      clear hb5 hdd hcv
      simp only
      go_wp2_with (at_make; go_loud (refine wpList_make_lit _ w5.heap.size 5 i0 _ 1 Tryd.underlying37 HI.out.1 HI.out.2.1 HI.out.2.2.1 cq ?mc2 ?mb2 ?ml2 (Nat.le_refl _) ?_))
      case mc2 => have := HCQ.out; omega
      case mb2 => rw [HI.out.2.2.2]; have := HCQ.out; omega
      case ml2 => have := HCQ.out; simp only [maxLen]; omega
      intro w6 hown6 hg6
      have HO6 := Lib.hid hown6
      have HB6 : Hid (Below w5.heap.size w5 w6) := Lib.hid ⟨hg6.os, hg6.tape, hg6.output, hg6.size, fun k hk => hg6.block k hk (by simp)⟩
      clear hown6 hg6
      go_wp2
      go_loopw [11, 12] (fun v i wx => ∃ j : Nat, j ≤ M ∧ v = .slice (some ⟨w5.heap.size, 0, none⟩) j cq ∧ i = .int .i64 j ∧ wx.ownsRow w5.heap.size 5 1 (.slice (some ⟨w5.heap.size, 0, none⟩) j cq) j (List.replicate j (.int .u8 59)) ∧ Below w5.heap.size w5 wx) (fun _ i _ => M - (intOf i).toNat)
      case atStart => exact ⟨0, by omega, rfl, rfl, HO6.out, HB6.out⟩
      case round =>
        obtain ⟨j, hj, rfl, rfl, hown, hbw⟩ := hrel
        have HO := Lib.hid hown
        have HB := Lib.hid hbw
        clear hown hbw HO6 HB6
        by_cases hlt2 : j < M
        · have hsz := HB.out.size
          go_wp2_with (at_builtin; refine wpList_append_fits _ rfl _ _ 37 rfl w5.heap.size 5 i0 1 Tryd.underlying37 HI.out.1 HI.out.2.2.1 w5.heap.size j cq _ rfl (HO.out.alloc _) ⟨wr.heap.size, 0, none⟩ 1 1 [.int .u8 59] rfl rfl (World.news_of_block (cs := #[.int .u8 59]) (t := 5) (fr := (0, 0)) (Blk.new wr _ _)) (by simp [Value.oneCell']) ?rm2 ?_)
          case rm2 => omega
          intro w7 hown7 hg7
          have hown8 : w7.ownsRow w5.heap.size 5 1 (.slice (some ⟨w5.heap.size, 0, none⟩) (j + 1) cq) (j + 1) (List.replicate (j + 1) (.int .u8 59)) := by
            rw [List.replicate_succ']
            exact hown7
          have HO8 := Lib.hid hown8
          have HB8 := Lib.hid ((HB.out.alloc HB.out.size _).grown hg7 (by simp; omega) (fun j e => by injection e with e; omega))
          clear hown7 hown8 hg7
          go_wp2
          go_roundw
          case rel => exact ⟨j + 1, by omega, rfl, by go_num, HO8.out, HB8.out⟩
          case measure => simp [intOf]; omega
        · have hjM : M = j := by omega
          subst hjM
          have hcv := conv_rep (c := 59) HO.out
          obtain ⟨o2, ho⟩ : ∃ o : ByteArray, (⟨(List.replicate M 59).toArray⟩ : ByteArray) = o := ⟨_, rfl⟩
          have hol : o2.data.toList = List.replicate M 59 := by rw [← ho]
          have hos : o2.size = M := by rw [size_len, hol]; simp
          have HS := Lib.hid (lex_semis (k := M) (by omega))
          rw [ho] at hcv
          rw [← hol] at HS
          have HX2 := Lib.hid (fun w9 (h9 : LaidJ w9) => lex_calls w9 h9 o2 (by unfold maxLen; omega))
          have HW2 := Lib.hid (HB5.out.trans (HB.out.mono HB5.out.size))
          clear ho hol hos
          obtain ⟨⟨tk2, a2, e2⟩, hlf2⟩ : ∃ z, lexF o2.data.toList = z := ⟨_, rfl⟩
          rw [hlf2] at HS
          replace HS : Hid ((a2, e2) = if M ≤ 20000 then (0, 0) else (1, 20)) := HS
          have HLF2 := Lib.hid hlf2
          clear hlf2
          have hdd : decide ((M : Int) < (M : Int)) = false := by simp
          go_wp2_with fail
          refine (HX2.out wr (HL.out.below HW2.out)).mono ?_
          rintro e w9 ⟨A9, c9, rfl, _, hb9⟩
          rw [HLF2.out]
          have HB9 := Lib.hid (HW2.out.trans (hb9.mono HW2.out.size))
          clear hb9 hdd hcv
          simp only
          rcases HOR.out with ⟨g1, rfl⟩ | ⟨g1, rfl⟩
          · have gg : (65536 : Int) < (N : Int) := by omega
            by_cases hj2 : M ≤ 20000
            · have h3 := HS.out
              rw [if_pos hj2] at h3
              injection h3 with h4 h5
              subst h4
              subst h5
              have gm : (M : Int) ≤ 20000 := by omega
              go_wp2
              go_ret
              first
                | exact ⟨rfl, HB9.out⟩
                | exact ⟨by change Ending.returned (.bool _) = _; congr 2; simp; omega, HB9.out⟩
            · have h3 := HS.out
              rw [if_neg hj2] at h3
              injection h3 with h4 h5
              subst h4
              subst h5
              have gm : (20000 : Int) < (M : Int) := by omega
              go_wp2
              go_ret
              first
                | exact ⟨rfl, HB9.out⟩
                | exact ⟨by change Ending.returned (.bool _) = _; congr 2; simp; omega, HB9.out⟩
          · have gg : (N : Int) ≤ 65536 := by omega
            by_cases hj2 : M ≤ 20000
            · have h3 := HS.out
              rw [if_pos hj2] at h3
              injection h3 with h4 h5
              subst h4
              subst h5
              have gm : (M : Int) ≤ 20000 := by omega
              go_wp2
              go_ret
              first
                | exact ⟨rfl, HB9.out⟩
                | exact ⟨by change Ending.returned (.bool _) = _; congr 2; simp; omega, HB9.out⟩
            · have h3 := HS.out
              rw [if_neg hj2] at h3
              injection h3 with h4 h5
              subst h4
              subst h5
              have gm : (20000 : Int) < (M : Int) := by omega
              go_wp2
              go_ret
              first
                | exact ⟨rfl, HB9.out⟩
                | exact ⟨by change Ending.returned (.bool _) = _; congr 2; simp; omega, HB9.out⟩

end Go.Proofs.YtcidccifnaecaaaDoor
