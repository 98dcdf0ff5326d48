/- did: an act on both heaps, walked. -/
import Derived.Test.YtbdkbjfaialeoaaRefC
import Derived.Test.YtbdkbjfaialeoaaActs
import Derived.Deep.RegionHeld3
namespace Go.Proofs.Ytbdkbjfaialeoaa
open Go.RowKit Go.Sort

/-- Both heaps. -/
structure Duo (W : World) (B hb rb : Nat) (F G : Nat → Prop) (o1 o2 : List Ob) : Prop where
  hp : Hp W B hb F o1
  rp : RHp W B rb G o2
  apart : ∀ k, F k → ¬ G k
def DuoGrew (w : World) (B hb rb : Nat) (F G : Nat → Prop) (o1 o2 : List Ob) (w' : World) : Prop :=
  ∃ F' G', Duo w' B hb rb F' G' o1 o2 ∧ Turn (fun k => F k ∨ G k) w w' ∧ ∀ k, F' k ∨ G' k → (F k ∨ G k) ∨ w.heap.size ≤ k
section
variable {w W W' : World} {B hb rb : Nat} {F G F1 G1 : Nat → Prop} {o1 o2 o1' o2' : List Ob}
theorem Duo.below (h : Duo W B hb rb F G o1 o2) (hb' : Below W.heap.size W W') : Duo W' B hb rb F G o1 o2 := ⟨h.hp.below hb', h.rp.below hb', h.apart⟩
theorem Duo.grew (h : Duo W B hb rb F G o1 o2) : DuoGrew W B hb rb F G o1 o2 W := ⟨F, G, h, Turn.refl _ _, fun _ hk => .inl hk⟩
theorem DuoGrew.below (h : DuoGrew w B hb rb F G o1 o2 W) (hb' : Below W.heap.size W W') : DuoGrew w B hb rb F G o1 o2 W' := by
  obtain ⟨F', G', h1, h2, h3⟩ := h
  exact ⟨F', G', h1.below hb', h2.trans ((Turn.of_below hb').mono (fun _ _ x => x.elim)) (fun _ _ h => h), h3⟩
theorem DuoGrew.openH (h : DuoGrew w B hb rb F G o1 o2 W) : ∃ F', Hp W B hb F' o1 ∧ ∀ o1' W', Grew W B hb F' o1' W' → DuoGrew w B hb rb F G o1' o2 W' := by
  obtain ⟨F', G', h1, h2, h3⟩ := h
  refine ⟨F', h1.hp, fun o1' W' ⟨F2, g1, g2, g3⟩ => ⟨F2, G', ⟨g1, h1.rp.turn g2 (fun k hk hf => h1.apart k hf hk), fun k hk hg => ?_⟩, h2.trans g2 (fun i hi hf => ?_), fun k hk => ?_⟩⟩
  · rcases g3 k hk with e | e
    · exact h1.apart k e hg
    · have := (h1.rp.foot k hg).2; omega
  · rcases h3 i (.inl hf) with e | e
    · exact e
    · omega
  · rcases hk with hk | hk
    · rcases g3 k hk with e | e
      · exact h3 k (.inl e)
      · exact .inr (Nat.le_trans h2.size e)
    · exact h3 k (.inr hk)
theorem DuoGrew.openR (h : DuoGrew w B hb rb F G o1 o2 W) : ∃ G', RHp W B rb G' o2 ∧ ∀ o2' W', RGrew W B rb G' o2' W' → DuoGrew w B hb rb F G o1 o2' W' := by
  obtain ⟨F', G', h1, h2, h3⟩ := h
  refine ⟨G', h1.rp, fun o2' W' ⟨G2, g1, g2, g3⟩ => ⟨F', G2, ⟨h1.hp.turn g2 (fun k hk hf => h1.apart k hk hf), g1, fun k hk hg => ?_⟩, h2.trans g2 (fun i hi hf => ?_), fun k hk => ?_⟩⟩
  · rcases g3 k hg with e | e
    · exact h1.apart k hk e
    · have := (h1.hp.foot k hk).2; omega
  · rcases h3 i (.inr hf) with e | e
    · exact e
    · omega
  · rcases hk with hk | hk
    · exact h3 k (.inl hk)
    · rcases g3 k hk with e | e
      · exact h3 k (.inr e)
      · exact .inr (Nat.le_trans h2.size e)
theorem DuoGrew.keep {g : Nat} {t : TypeId} {cs : Array Value} (h : DuoGrew w B hb rb F G o1 o2 W) (hb' : Blk w g t cs) (hf : ¬ F g) (hg : ¬ G g) : Blk W g t cs := by
  obtain ⟨F', G', h1, h2, h3⟩ := h
  exact hb'.turn h2 (fun x => x.elim hf hg)
/-- A call of the first heap: by its contract at whatever footprint there is. -/
theorem DuoGrew.hp (h : DuoGrew w B hb rb F G o1 o2 W) : ∃ F', Hp W B hb F' o1 := by
  obtain ⟨F', G', h1, _⟩ := h
  exact ⟨F', h1.hp⟩
theorem DuoGrew.rp (h : DuoGrew w B hb rb F G o1 o2 W) : ∃ G', RHp W B rb G' o2 := by
  obtain ⟨F', G', h1, _⟩ := h
  exact ⟨G', h1.rp⟩
theorem DuoGrew.size (h : DuoGrew w B hb rb F G o1 o2 W) : w.heap.size ≤ W.heap.size := by
  obtain ⟨F', G', h1, h2, _⟩ := h
  exact h2.size
end

/-- A piece that comes to one end, whatever the order. -/
def onePost (A : Act) (R : World → Prop) : Exit → Act → World → Prop
  | .normal, a, w => a = A ∧ R w
  | _, _, _ => False
theorem wp_onep {P : Program} {c : Code} {Q : Exit → Act → World → Prop} {a : Act} {w : World} (A : Act) (R : World → Prop)
    (h : c.wp P (onePost A R) a w) (hq : ∀ w', R w' → Q .normal A w') : c.wp P Q a w :=
  wp_mono h (fun e a' w' hh => by
    cases e with
    | normal =>
      obtain ⟨rfl, hr⟩ := hh
      exact hq w' hr
    | _ => exact hh.elim)
theorem told_form (v : Option Vl) : ∃ k n s b, told v = .tuple #[.agg #[.int .i64 k, .int .i64 n, .string s], .bool b] := by
  cases v with
  | none => exact ⟨_, _, _, _, told_none⟩
  | some v => exact ⟨_, _, _, _, told_some v⟩
def kind1 (x : ActV) : Bool := (IntKind.u64.wrap x.do_).tmod 3 == 1
def actD (os : List Ob) (x : ActV) : List Ob := if kind0 x then (allocT os x.o).2 else if kind1 x then (putT os x.p x.key x.v).2 else os
def ActV.cells (x : ActV) : Array Value := #[.int .i64 x.do_, .int .i64 x.p, .int .i64 x.o.mark, .int .i64 x.o.proto, .int .i64 x.o.code, .int .i64 x.o.frame, .string x.key, .int .i64 x.v.kind, .int .i64 x.v.n, .string x.v.s]

set_option maxRecDepth 100000 in
set_option maxHeartbeats 4000000 in
theorem did_calls (w : World) (B hb rb : Nat) (F G : Nat → Prop) (os : List Ob) (x : ActV) (h : Duo w B hb rb F G os os) (hB : B ≤ w.heap.size) (hT : Tied os) (hS : Small 99999 os) (hl : os.length ≤ 5000) (hk : x.key.size ≤ maxLen) :
    Calls Try.prog 24 #[.pointer (some ⟨hb, 0, none⟩), .pointer (some ⟨rb, 0, none⟩), .agg #[.int .i64 x.do_, .int .i64 x.p, .int .i64 x.o.mark, .int .i64 x.o.proto, .int .i64 x.o.code, .int .i64 x.o.frame, .string x.key, .int .i64 x.v.kind, .int .i64 x.v.n, .string x.v.s]] w
      fun e w' => e = .returned (.bool true) ∧ DuoGrew w B hb rb F G (actD os x) (actD os x) w' := by
  have HT := Lib.hid hT
  have HSM := Lib.hid hS
  have HK := Lib.hid hk
  obtain ⟨w0, hw0⟩ : ∃ w0, w.alloc (.cells #[.int .i64 x.do_, .int .i64 x.p, .int .i64 x.o.mark, .int .i64 x.o.proto, .int .i64 x.o.code, .int .i64 x.o.frame, .string x.key, .int .i64 x.v.kind, .int .i64 x.v.n, .string x.v.s] 46) = w0 := ⟨_, rfl⟩
  have bx : Blk w0 w.heap.size 46 x.cells := by rw [← hw0]; exact Blk.new _ _ _
  have hb0 : Below w.heap.size w w0 := by rw [← hw0]; exact (Below.refl _ _).alloc (Nat.le_refl _) _
  have HD0 : Hid (Duo w0 B hb rb F G os os) := h.below hb0
  have HNF : Hid (¬ F w.heap.size ∧ ¬ G w.heap.size) := ⟨fun e => by have := (h.hp.foot _ e).2; omega, fun e => by have := (h.rp.foot _ e).2; omega⟩
  have HW0 : Hid (∀ o1 o2 W, DuoGrew w0 B hb rb F G o1 o2 W → DuoGrew w B hb rb F G o1 o2 W) := fun o1 o2 W ⟨F', G', k1, k2, k3⟩ => by
    refine ⟨F', G', k1, ((Turn.of_below hb0).mono (fun _ _ x => x.elim)).trans k2 (fun _ _ h => h), fun k hk => ?_⟩
    rcases k3 k hk with e | e
    · exact .inl e
    · exact .inr (Nat.le_trans hb0.size e)
  have hB0 : B ≤ w0.heap.size := Nat.le_trans hB hb0.size
  have c0 := bx.cell 0
  have c1 := bx.cell 1
  have c2 := bx.cell 2
  have c3 := bx.cell 3
  have c4 := bx.cell 4
  have c5 := bx.cell 5
  have c6 := bx.cell 6
  have c7 := bx.cell 7
  have c8 := bx.cell 8
  have c9 := bx.cell 9
  simp only [ActV.cells] at c0 c1 c2 c3 c4 c5 c6 c7 c8 c9
  have HBX := Lib.hid bx
  have HG0 := Lib.hid HD0.out.grew
  clear h hT hS hk bx hb0
  go_enter Try.func24, Try.ntmps24
  cases hk0 : kind0 x with
  | true =>
    have hkd : ((IntKind.u64.wrap x.do_).tmod 3 == 0) = true := hk0
    have HAD : Hid (actD os x = (allocT os x.o).2) := by refine Lib.hid ?_; rw [actD, hk0]; rfl
    clear hk0
    go_wp2_with fail
    obtain ⟨F1, hp1, hn1⟩ := HG0.out.openH
    refine (alloc_calls w0 B hb F1 os x.o hp1 hB0 hl).mono ?_
    rintro e w1 ⟨rfl, hg⟩
    have HG1 := Lib.hid (hn1 _ _ hg)
    have bx1 := HG1.out.keep HBX.out HNF.out.1 HNF.out.2
    have hB1 : B ≤ w1.heap.size := Nat.le_trans hB0 HG1.out.size
    clear hp1 hn1 hg
    clear c0 c1 c2 c3 c4 c5 c6 c7 c8 c9
    have c0 := bx1.cell 0
    have c1 := bx1.cell 1
    have c2 := bx1.cell 2
    have c3 := bx1.cell 3
    have c4 := bx1.cell 4
    have c5 := bx1.cell 5
    have c6 := bx1.cell 6
    have c7 := bx1.cell 7
    have c8 := bx1.cell 8
    have c9 := bx1.cell 9
    simp only [ActV.cells] at c0 c1 c2 c3 c4 c5 c6 c7 c8 c9
    clear bx1
    go_wp2_with fail
    obtain ⟨G1, hp1, hn1⟩ := HG1.out.openR
    refine (ralloc_calls w1 B rb G1 os x.o hp1 hB1 hl).mono ?_
    rintro e w2 ⟨rfl, hg⟩
    have HG2 := Lib.hid (HW0.out _ _ _ (hn1 _ _ hg))
    clear hp1 hn1 hg
    clear c0 c1 c2 c3 c4 c5 c6 c7 c8 c9
    go_wp2
    go_ret
    exact ⟨rfl, by rw [HAD.out]; exact HG2.out⟩
  | false =>
    have hkd : ((IntKind.u64.wrap x.do_).tmod 3 == 0) = false := hk0
    cases hk1 : kind1 x with
    | true =>
      have hkd1 : ((IntKind.u64.wrap x.do_).tmod 3 == 1) = true := hk1
      have HAD : Hid (actD os x = (putT os x.p x.key x.v).2) := by refine Lib.hid ?_; rw [actD, hk0, hk1]; rfl
      clear hk0 hk1
      go_wp2_with fail
      have HS2 : Hid (Small 100000 os) := HSM.out.mono (by decide)
      have HG0d := Lib.hid (HG0.out.below (Below.refl _ w0).drew)
      have hB0d : B ≤ w0.drew.heap.size := hB0
      have d1 : w0.drew.cell? ⟨w.heap.size, 1, none⟩ = some (.int .i64 x.p) := c1
      have d6 : w0.drew.cell? ⟨w.heap.size, 6, none⟩ = some (.string x.key) := c6
      have d7 : w0.drew.cell? ⟨w.heap.size, 7, none⟩ = some (.int .i64 x.v.kind) := c7
      have d8 : w0.drew.cell? ⟨w.heap.size, 8, none⟩ = some (.int .i64 x.v.n) := c8
      have d9 : w0.drew.cell? ⟨w.heap.size, 9, none⟩ = some (.string x.v.s) := c9
      obtain ⟨F1, hp1, hn1⟩ := HG0d.out.openH
      have HP1 := Lib.hid hp1
      have HN1 := Lib.hid hn1
      clear hp1 hn1
      apply wp_onep (R := fun W => DuoGrew w B hb rb F G (actD os x) (actD os x) W)
      case h =>
        go_region_held3 (fun w' => w'.cell? ⟨w.heap.size, 1, none⟩ = some (.int .i64 x.p) ∧ w'.cell? ⟨w.heap.size, 6, none⟩ = some (.string x.key) ∧ w'.cell? ⟨w.heap.size, 7, none⟩ = some (.int .i64 x.v.kind) ∧ w'.cell? ⟨w.heap.size, 8, none⟩ = some (.int .i64 x.v.n) ∧ w'.cell? ⟨w.heap.size, 9, none⟩ = some (.string x.v.s)) (first
          | exact ⟨d1, d6, d7, d8, d9⟩
          | exact ⟨f1, f6, f7, f8, f9⟩
          | exact ⟨g1, g6, g7, g8, g9⟩
          | go_keep) (first
          | (go_at_call 16; refine (hput_calls _ B hb F1 os x.p x.key x.v HP1.out hB0d HK.out HS2.out).mono ?_; rintro e w1 ⟨rfl, hg⟩; have HG1 := Lib.hid (HN1.out _ _ hg); clear hg; have bx1 := HG1.out.keep HBX.out HNF.out.1 HNF.out.2; have f1 : w1.cell? ⟨w.heap.size, 1, none⟩ = some (.int .i64 x.p) := bx1.cell 1; have f6 : w1.cell? ⟨w.heap.size, 6, none⟩ = some (.string x.key) := bx1.cell 6; have f7 : w1.cell? ⟨w.heap.size, 7, none⟩ = some (.int .i64 x.v.kind) := bx1.cell 7; have f8 : w1.cell? ⟨w.heap.size, 8, none⟩ = some (.int .i64 x.v.n) := bx1.cell 8; have f9 : w1.cell? ⟨w.heap.size, 9, none⟩ = some (.string x.v.s) := bx1.cell 9; clear bx1)
          | (go_at_call 36; obtain ⟨G1, hp2, hn2⟩ := HG1.out.openR; refine (rput_calls w1 B rb G1 os x.p x.key x.v hp2 (Nat.le_trans hB0 HG1.out.size) HS2.out).mono ?_; rintro e w2 ⟨rfl, hg⟩; have HG2' := hn2 _ _ hg; have HG2 := Lib.hid (HW0.out _ _ _ HG2'); have bx2 := HG2'.keep HBX.out HNF.out.1 HNF.out.2; have g1 : w2.cell? ⟨w.heap.size, 1, none⟩ = some (.int .i64 x.p) := bx2.cell 1; have g6 : w2.cell? ⟨w.heap.size, 6, none⟩ = some (.string x.key) := bx2.cell 6; have g7 : w2.cell? ⟨w.heap.size, 7, none⟩ = some (.int .i64 x.v.kind) := bx2.cell 7; have g8 : w2.cell? ⟨w.heap.size, 8, none⟩ = some (.int .i64 x.v.n) := bx2.cell 8; have g9 : w2.cell? ⟨w.heap.size, 9, none⟩ = some (.string x.v.s) := bx2.cell 9; clear hg hp2 hn2 HG2' bx2))
        all_goals exact ⟨rfl, by rw [HAD.out]; exact HG2.out⟩
      intro W hW
      have HFIN := Lib.hid hW
      clear hW
      go_wp2
      go_ret
      exact ⟨rfl, HFIN.out⟩
    | false =>
      have hkd1 : ((IntKind.u64.wrap x.do_).tmod 3 == 1) = false := hk1
      have HAD : Hid (actD os x = os) := by refine Lib.hid ?_; rw [actD, hk0, hk1]; rfl
      clear hk0 hk1 c2 c3 c4 c5 c7 c8 c9
      obtain ⟨k1, n1, s1, b1, e1⟩ : ∃ k n s b, told (getT os x.p x.key) = .tuple #[.agg #[.int .i64 k, .int .i64 n, .string s], .bool b] := told_form _
      obtain ⟨k2, n2, s2, b2, e2⟩ : ∃ k n s b, told (ownT os x.p x.key) = .tuple #[.agg #[.int .i64 k, .int .i64 n, .string s], .bool b] := told_form _
      have E1 := Lib.hid e1
      have E2 := Lib.hid e2
      have HS2 : Hid (Small 100000 os) := HSM.out.mono (by decide)
      clear e1 e2
      go_wp2_with fail
      obtain ⟨Fx, hpx, _⟩ := HG0.out.openH
      refine (hget_calls w0 B hb Fx os x.p x.key hpx HT.out HK.out).mono ?_
      rintro e wc0 ⟨rfl, hgx⟩
      rw [E1.out]
      have bxc := (HBX.out).keep (hgx.block _ HBX.out.lt)
      have HGc := Lib.hid (HG0.out.below hgx)
      clear hpx hgx c1 c6
      have c1 := bxc.cell 1
      have c6 := bxc.cell 6
      simp only [ActV.cells] at c1 c6
      have hlx := bxc.lt
      go_wp2_with fail
      have bn : Blk (wc0.alloc (.cells #[.int .i64 k1, .int .i64 n1, .string s1] 33)) wc0.heap.size 33 #[.int .i64 k1, .int .i64 n1, .string s1] := Blk.new _ _ _
      have hbn : Below wc0.heap.size wc0 (wc0.alloc (.cells #[.int .i64 k1, .int .i64 n1, .string s1] 33)) := (Below.refl _ _).alloc (Nat.le_refl _) _
      clear c1 c6
      generalize wc0.alloc (.cells #[.int .i64 k1, .int .i64 n1, .string s1] 33) = wd0 at bn hbn ⊢
      have HBX1 := Lib.hid (bxc.keep (hbn.block _ bxc.lt))
      have HV0 := Lib.hid bn
      have HG1 := Lib.hid (HGc.out.below hbn)
      have ci := HBX1.out.cell 1
      have cj := HBX1.out.cell 6
      clear bxc hlx bn hbn HGc
      have c1 := ci
      have c6 := cj
      clear ci cj
      obtain ⟨Fx, hpx, _⟩ := HG1.out.openR
      refine (rget_calls wd0 B rb Fx os x.p x.key hpx HT.out HS2.out).mono ?_
      rintro e wc1 ⟨rfl, hgx⟩
      rw [E1.out]
      have bxc := (HBX1.out).keep (hgx.block _ HBX1.out.lt)
      have HV0c := HV0.out.keep (hgx.block _ HV0.out.lt)
      have HGc := Lib.hid (HG1.out.below hgx)
      clear hpx hgx c1 c6
      have c1 := bxc.cell 1
      have c6 := bxc.cell 6
      simp only [ActV.cells] at c1 c6
      have hlx := bxc.lt
      go_wp2_with fail
      have bn : Blk (wc1.alloc (.cells #[.int .i64 k1, .int .i64 n1, .string s1] 33)) wc1.heap.size 33 #[.int .i64 k1, .int .i64 n1, .string s1] := Blk.new _ _ _
      have hbn : Below wc1.heap.size wc1 (wc1.alloc (.cells #[.int .i64 k1, .int .i64 n1, .string s1] 33)) := (Below.refl _ _).alloc (Nat.le_refl _) _
      clear c1 c6
      generalize wc1.alloc (.cells #[.int .i64 k1, .int .i64 n1, .string s1] 33) = wd1 at bn hbn ⊢
      have HBX2 := Lib.hid (bxc.keep (hbn.block _ bxc.lt))
      have hq := HV0c.keep (hbn.block _ HV0c.lt)
      clear HV0c
      replace HV0 := Lib.hid hq
      clear hq
      have HV1 := Lib.hid bn
      have HG2 := Lib.hid (HGc.out.below hbn)
      have ci := HBX2.out.cell 1
      have cj := HBX2.out.cell 6
      clear bxc hlx bn hbn HGc
      have c1 := ci
      have c6 := cj
      clear ci cj
      obtain ⟨Fx, hpx, _⟩ := HG2.out.openH
      refine (own_calls wd1 B hb Fx os x.p x.key hpx HK.out).mono ?_
      rintro e wc2 ⟨rfl, hgx⟩
      rw [E2.out]
      have bxc := (HBX2.out).keep (hgx.block _ HBX2.out.lt)
      have HV0c := HV0.out.keep (hgx.block _ HV0.out.lt)
      have HV1c := HV1.out.keep (hgx.block _ HV1.out.lt)
      have HGc := Lib.hid (HG2.out.below hgx)
      clear hpx hgx c1 c6
      have c1 := bxc.cell 1
      have c6 := bxc.cell 6
      simp only [ActV.cells] at c1 c6
      have hlx := bxc.lt
      go_wp2_with fail
      have bn : Blk (wc2.alloc (.cells #[.int .i64 k2, .int .i64 n2, .string s2] 33)) wc2.heap.size 33 #[.int .i64 k2, .int .i64 n2, .string s2] := Blk.new _ _ _
      have hbn : Below wc2.heap.size wc2 (wc2.alloc (.cells #[.int .i64 k2, .int .i64 n2, .string s2] 33)) := (Below.refl _ _).alloc (Nat.le_refl _) _
      clear c1 c6
      generalize wc2.alloc (.cells #[.int .i64 k2, .int .i64 n2, .string s2] 33) = wd2 at bn hbn ⊢
      have HBX3 := Lib.hid (bxc.keep (hbn.block _ bxc.lt))
      have hq := HV0c.keep (hbn.block _ HV0c.lt)
      clear HV0c
      replace HV0 := Lib.hid hq
      clear hq
      have hq := HV1c.keep (hbn.block _ HV1c.lt)
      clear HV1c
      replace HV1 := Lib.hid hq
      clear hq
      have HV2 := Lib.hid bn
      have HG3 := Lib.hid (HGc.out.below hbn)
      have ci := HBX3.out.cell 1
      have cj := HBX3.out.cell 6
      clear bxc hlx bn hbn HGc
      have c1 := ci
      have c6 := cj
      clear ci cj
      obtain ⟨Fx, hpx, _⟩ := HG3.out.openR
      refine (rown_calls wd2 B rb Fx os x.p x.key hpx HS2.out).mono ?_
      rintro e wc3 ⟨rfl, hgx⟩
      rw [E2.out]
      have bxc := (HBX3.out).keep (hgx.block _ HBX3.out.lt)
      have HV0c := HV0.out.keep (hgx.block _ HV0.out.lt)
      have HV1c := HV1.out.keep (hgx.block _ HV1.out.lt)
      have HV2c := HV2.out.keep (hgx.block _ HV2.out.lt)
      have HGc := Lib.hid (HG3.out.below hgx)
      clear hpx hgx c1 c6
      have c1 := bxc.cell 1
      have c6 := bxc.cell 6
      simp only [ActV.cells] at c1 c6
      have hlx := bxc.lt
      have hv0x := HV0c.cell 0
      have hv0y := HV0c.cell 1
      have hv0z := HV0c.cell 2
      have hv0l := HV0c.lt
      have hv1x := HV1c.cell 0
      have hv1y := HV1c.cell 1
      have hv1z := HV1c.cell 2
      have hv1l := HV1c.lt
      have hv2x := HV2c.cell 0
      have hv2y := HV2c.cell 1
      have hv2z := HV2c.cell 2
      have hv2l := HV2c.lt
      clear bxc HV0c HV1c HV2c
      have HEND := Lib.hid (HW0.out _ _ _ (HGc.out.below ((Below.refl _ _).alloc (Nat.le_refl _) (.cells #[.int .i64 k2, .int .i64 n2, .string s2] 33))))
      go_wp2
      go_ret
      exact ⟨rfl, by rw [HAD.out]; exact HEND.out⟩

end Go.Proofs.Ytbdkbjfaialeoaa
