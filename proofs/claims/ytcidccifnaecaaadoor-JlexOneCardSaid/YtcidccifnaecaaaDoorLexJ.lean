/- Rows of tokens put behind each other; Alike: walked. -/
import Derived.Test.YtcidccifnaecaaaDoorWQuotes
import Derived.Test.YtcidccifnaecaaaDoorLexR
import Derived.Deep.DeepAppendRoom
import Derived.Deep.AppendSrc
import Derived.OwnWalk
namespace Go.Proofs.YtcidccifnaecaaaDoor
open Go.RowKit Go.Sort

section
variable {P : Program} {ops : Array Oper} {Q : Exit → Act → World → Prop} {a : Act} {w : World} {rest : List Oper} {o : Oper}
/-- A builtin append that stands behind a guard. -/
theorem wpList_guarded_append (hw : Region.wanted o (yielded ops a.tmps) = true) (s x : Operand) (t : TypeId) (hop : o.op = Op.call { callee := Callee.builtin Builtin.append, args := #[s, x], argTypes := #[t, t] })
    (v X : Value) (hs : a.eval s = v) (hx : a.eval x = X) {v' : Value} {w' : World} (hrun : (Builtin.append_ #[t, t] o.type #[v, X]).run P w = .ok v' w') (h : wpList P ops Q rest (a.put o.dst v') w') : wpList P ops Q (o :: rest) a w :=
  wpList_step fun K hK => by
    rw [if_pos hw]
    unfold Oper.wp
    simp [execOp, hop, resolve, invoke, builtin, hs, hx, hrun, Result.andThen]
    exact hK _ _ h
theorem wpList_guarded_make (hw : Region.wanted o (yielded ops a.tmps) = true) (l c : Operand) (t : TypeId) (hop : o.op = Op.makeSlice t l c)
    (base : Nat) (e : TypeId) (i : TypeInfo) (z : Value) (size : Nat) (h1 : P.underlying t = some (.slice e)) (h2 : P.info? e = some i) (h3 : i.zero = some z) (h4 : i.size = size)
    (kl kc : IntKind) (C : Int) (n : Nat) (hl : a.eval l = .int kl 0) (hc : a.eval c = .int kc C) (hC : C = (n : Int)) (b2 : i.bytes * n ≤ 281474976710656) (b3 : n ≤ maxLen) (b4 : base ≤ w.heap.size)
    (hK : ∀ w', w'.ownsRow base e size (.slice (some ⟨w.heap.size, 0, none⟩) 0 n) 0 [] → w.grownBy w' none → wpList P ops Q rest (a.put o.dst (.slice (some ⟨w.heap.size, 0, none⟩) 0 n)) w') :
    wpList P ops Q (o :: rest) a w :=
  wpList_step fun K hK' => by
    rw [if_pos hw]
    obtain ⟨w', hrun, r1, r2⟩ := run_make_own (P := P) w base t e i z size h1 h2 h3 h4 kl kc n b2 b3 b4
    subst hC
    unfold Oper.wp
    simp [execOp, hop, hl, hc, hrun, Result.andThen]
    exact hK' _ _ (hK w' r1 r2)
end

theorem tlCells_one (p : List Tl) : ∀ u ∈ tlCells p, u.oneCell' = true := by
  intro u hu
  simp only [tlCells, List.mem_flatMap] at hu
  obtain ⟨t, _, hu⟩ := hu
  simp only [tlCells1, List.mem_cons, List.not_mem_nil, or_false] at hu
  rcases hu with rfl | rfl | rfl | rfl | rfl <;> rfl

/-- Tokens put behind those of a row that has room. -/
theorem app_row {W : World} {B g k cap B' : Nat} {xs : List Value} (ty : TypeId) (hown : W.ownsRow B 45 5 (.slice (some ⟨g, 0, none⟩) k cap) k xs) {V : Value} {ps : List Tl} (hV : W.ownsRow B' 45 5 V ps.length (tlCells ps)) (hroom : k + ps.length ≤ cap) :
    ∃ W', (Builtin.append_ #[38, 38] ty #[.slice (some ⟨g, 0, none⟩) k cap, V]).run Tryd.prog W = .ok (.slice (some ⟨g, 0, none⟩) (k + ps.length) cap) W' ∧
      W'.ownsRow B 45 5 (.slice (some ⟨g, 0, none⟩) (k + ps.length) cap) (k + ps.length) (xs ++ tlCells ps) ∧ W.grownBy W' (some g) := by
  obtain ⟨i0, hi, hz0, hz1, hz2⟩ := info_parts info_tok
  rcases hV.2 with ⟨rfl, h0⟩ | ⟨g', cap', cur, rfl, _, hg', r⟩
  · have hps : ps = [] := List.eq_nil_of_length_eq_zero h0
    subst hps
    have hr := run_append_room_src (P := Tryd.prog) W 38 38 ty 45 i0 Tryd.underlying38 hi g 0 k cap (.slice none 0 0) 0 [] (Src.ofNil W Tryd.underlying38 0) (by simpa using hroom) (fun j hj => by simp at hj) (fun j hj => by simp at hj)
    refine ⟨_, hr, ?_, ?_⟩
    · simpa [tlCells, World.setCells] using hown
    · exact ⟨rfl, rfl, rfl, Nat.le_refl _, fun _ _ _ => rfl⟩
  · exact run_append_own_spare W B 38 ty 45 i0 5 Tryd.underlying38 hi hz1 g k cap xs hown ⟨g', 0, none⟩ ps.length cap' (tlCells ps) (tlCells_len ps) (fun j u hu => hV.cells rfl j u hu) (tlCells_one ps) hroom

set_option maxRecDepth 100000 in
set_option maxHeartbeats 2000000 in
/-- Two rows of tokens that say the same are alike. -/
theorem alike_calls (w : World) {B1 B2 n1 n2 c1 c2 : Nat} {A1 A2 : Option Addr} {ps qs : List Tl} (h1 : w.ownsRow B1 45 5 (.slice A1 n1 c1) n1 (tlCells ps)) (hn1 : ps.length = n1)
    (h2 : w.ownsRow B2 45 5 (.slice A2 n2 c2) n2 (tlCells qs)) (hn2 : qs.length = n2) (he : ps.map Tl.t = qs.map Tl.t) (hb : n1 ≤ 1000000) :
    Calls Tryd.prog 35 #[.slice A1 n1 c1, .slice A2 n2 c2] w fun e w' => e = .returned (.bool true) ∧ Below w.heap.size w w' := by
  have hnn : n1 = n2 := by
    have := congrArg List.length he
    simp only [List.length_map] at this
    omega
  subst hnn
  have H1 := Lib.hid h1
  have H2 := Lib.hid h2
  have HE := Lib.hid he
  clear h1 h2 he
  go_enter Tryd.func35, Tryd.ntmps35
  go_wp2
  go_loopw [4, 5] (fun r i wr => ∃ k : Nat, r = .bool false ∧ k ≤ n1 ∧ i = .int .i64 k ∧ Below w.heap.size w wr) (fun _ i _ => n1 - (intOf i).toNat)
  case atStart => exact ⟨0, rfl, by omega, rfl, Below.refl _ _⟩
  case round =>
    obtain ⟨k, rfl, hk, rfl, hbw⟩ := hrel
    have HB := Lib.hid hbw
    clear hbw
    by_cases hlt : k < n1
    · obtain ⟨p, hp⟩ : ∃ p, ps[k]? = some p := ⟨_, List.getElem?_eq_getElem (by omega)⟩
      obtain ⟨q, hq⟩ : ∃ q, qs[k]? = some q := ⟨_, List.getElem?_eq_getElem (by omega)⟩
      have hpq : p.t = q.t := by
        have h3 : (ps.map Tl.t)[k]? = some p.t := by rw [List.getElem?_map, hp]; rfl
        rw [HE.out, List.getElem?_map, hq] at h3
        injection h3 with h3
        exact h3.symm
      obtain ⟨g1, cap1, hA1, _, _⟩ := World.ownsRow.form H1.out (by omega)
      obtain ⟨g2, cap2, hA2, _, _⟩ := World.ownsRow.form H2.out (by omega)
      injection hA1 with hA1 _ hcap1
      injection hA2 with hA2 _ hcap2
      subst hA1
      subst hA2
      clear hcap1 hcap2
      have x0 : wr.cell? ⟨g1, k * 5 + 0, none⟩ = some (.int .i64 p.t.kind) := cell_kept HB.out (tl_at H1.out hn1 hp 0 (by decide))
      have x1 : wr.cell? ⟨g1, k * 5 + 1, none⟩ = some (.string ⟨p.t.s.toArray⟩) := cell_kept HB.out (tl_at H1.out hn1 hp 1 (by decide))
      have x2 : wr.cell? ⟨g1, k * 5 + 2, none⟩ = some (.int .i64 p.t.n) := cell_kept HB.out (tl_at H1.out hn1 hp 2 (by decide))
      have y0 : wr.cell? ⟨g2, k * 5 + 0, none⟩ = some (.int .i64 q.t.kind) := cell_kept HB.out (tl_at H2.out hn2 hq 0 (by decide))
      have y1 : wr.cell? ⟨g2, k * 5 + 1, none⟩ = some (.string ⟨q.t.s.toArray⟩) := cell_kept HB.out (tl_at H2.out hn2 hq 1 (by decide))
      have y2 : wr.cell? ⟨g2, k * 5 + 2, none⟩ = some (.int .i64 q.t.n) := cell_kept HB.out (tl_at H2.out hn2 hq 2 (by decide))
      rw [← hpq] at y0 y1 y2
      rw [Nat.add_zero] at x0 y0
      generalize p.t.kind = tk at x0 y0
      generalize (⟨p.t.s.toArray⟩ : ByteArray) = ts at x1 y1
      generalize p.t.n = tn at x2 y2
      have gx0 := cell_regrown x0
      have gx1 := cell_regrown x1
      have gx2 := cell_regrown x2
      have gy0 := cell_regrown y0
      have gy1 := cell_regrown y1
      have gy2 := cell_regrown y2
      have HBQ := Lib.hid (fun dq osq => below_regrown wr dq osq)
      clear x0 x1 x2 y0 y1 y2 hp hq hpq
      go_wp2
      refine wp_region_quiet_below (by kernel_rfl) (by kernel_rfl) ?_
      repeat (first | go_big_quiet_skip | quiet_step ((fail)))
      refine wpQuiet_nil ?_
      intro _ hw'
      obtain ⟨⟨dq, osq⟩, rfl⟩ := hw'
      go_wp2
      exact ⟨⟨k + 1, rfl, by omega, by go_num, HB.out.trans ((HBQ.out dq osq).mono HB.out.size)⟩, by simp [intOf]; omega⟩
    · obtain rfl : k = n1 := by omega
      have hdd : decide ((k : Int) < (k : Int)) = false := by simp
      go_wp2
      go_ret
      exact ⟨rfl, HB.out⟩

end Go.Proofs.YtcidccifnaecaaaDoor
