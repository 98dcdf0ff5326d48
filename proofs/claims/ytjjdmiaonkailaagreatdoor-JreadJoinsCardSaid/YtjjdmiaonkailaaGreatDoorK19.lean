/- Walks and plain laws, packed: RdD, Read1, RdE, RdF0. -/
import Derived.Test.YtjjdmiaonkailaaGreatDoorK18
import Derived.Test.YtjjdmiaonkailaaGreatDoorK03
import Derived.WalkMore
import Derived.Defers
import Derived.Recover
import Derived.Deep.RegionHeld3
import Derived.Deep.RegionWith
import Derived.Laws.ResultCell
namespace Go.Proofs.YtjjdmiaonkailaaGreatDoor
section
open Go.RowKit Go.Sort
def NodeV (B:Nat):World→Tree→Value→Prop:=fun W t v=>TV B W t v
def PairV (B:Nat):World→Tree × Bool→Value→Prop:=fun W p v => ∃ u,v = .tuple #[u,.bool p.2]∧TV B W p.1 u
def RowV (B:Nat):World→List Tree→Value→Prop:=fun W ts v=>RowT B W ts v∧ts.length≤200000
abbrev rdP (rb:Nat):Value := .pointer (some ⟨rb,0,none⟩)
structure AllR (rb last f:Nat):Prop where
 expr : ∀ w l y,St w rb last l→(fns last f).expr l=some y→Calls Tryz.prog 27 #[rdP rb] w (PostS rb last w (NodeV w.heap.size) y)
 cond : ∀ w l y,St w rb last l→(fns last f).cond l=some y→Calls Tryz.prog 50 #[rdP rb] w (PostS rb last w (PairV w.heap.size) y)
 level : ∀ n w l y,n≤6→St w rb last l→(fns last f).level n l=some y→Calls Tryz.prog 81 #[rdP rb,.int .i64 (n:Nat)] w (PostS rb last w (PairV w.heap.size) y)
 signed : ∀ w l y,St w rb last l→(fns last f).signed l=some y→Calls Tryz.prog 119 #[rdP rb] w (PostS rb last w (PairV w.heap.size) y)
 chain : ∀ w l y,St w rb last l→(fns last f).chain l=some y→Calls Tryz.prog 148 #[rdP rb] w (PostS rb last w (PairV w.heap.size) y)
 members : ∀ b B x xv w l y,rb<B→B≤w.heap.size→TV B w x xv→St w rb last l→(fns last f).members b x l=some y→Calls Tryz.prog 170 #[rdP rb,xv,.bool b] w (PostS rb last w (NodeV B) y)
 thing : ∀ w l y,St w rb last l→(fns last f).thing l=some y→Calls Tryz.prog 171 #[rdP rb] w (PostS rb last w (NodeV w.heap.size) y)
 rest : ∀ w l y,St w rb last l→(fns last f).rest l=some y→Calls Tryz.prog 161 #[rdP rb] w (PostS rb last w (RowV w.heap.size) y)
 block : ∀ w l y,St w rb last l→(fns last f).block l=some y→Calls Tryz.prog 105 #[rdP rb] w (PostS rb last w (NodeV w.heap.size) y)
 stmts : ∀ w l y,St w rb last l→(fns last f).stmts [] l=some y→Calls Tryz.prog 35 #[rdP rb] w (PostS rb last w (RowV w.heap.size) y)
 within : ∀ w l y,St w rb last l→(fns last f).within l=some y→Calls Tryz.prog 160 #[rdP rb] w (PostS rb last w (NodeV w.heap.size) y)
 stmt : ∀ w l y,St w rb last l→(fns last f).stmt l=some y→Calls Tryz.prog 65 #[rdP rb] w (PostS rb last w (NodeV w.heap.size) y)
theorem Blk.five {w:World} {g:Nat} {t:TypeId} {v0 v1 v2 v3 v4:Value} (h:Blk w g t #[v0,v1,v2,v3,v4]):(w.cell? ⟨g,0,none⟩=some v0∧w.cell? ⟨g,1,none⟩=some v1∧w.cell? ⟨g,2,none⟩=some v2∧w.cell? ⟨g,3,none⟩=some v3∧w.cell? ⟨g,4,none⟩=some v4) ∧
  w.frozen? ⟨g,0,none⟩=false∧w.frozen? ⟨g,1,none⟩=false∧w.frozen? ⟨g,2,none⟩=false∧w.frozen? ⟨g,3,none⟩=false∧w.frozen? ⟨g,4,none⟩=false :=
 ⟨⟨h.cell 0,h.cell 1,h.cell 2,h.cell 3,h.cell 4⟩,h.frozen 0,h.frozen 1,h.frozen 2,h.frozen 3,h.frozen 4⟩
abbrev zeroN:Array Value:=#[.int .i64 0,.string ⟨#[]⟩,.int .i64 0,.slice none 0 0,.int .i64 0]
theorem Keep.set5 {B:Nat} (w:World) {g:Nat} (hg:g<B) (v0 v1 v2 v3 v4:Value):Keep B w (sets5 w g v0 v1 v2 v3 v4) :=
 ((((Keep.setCell w (p:=⟨g,0,none⟩) hg v0).trans (Keep.setCell _ (p:=⟨g,1,none⟩) hg v1) (Nat.le_refl _)).trans (Keep.setCell _ (p:=⟨g,2,none⟩) hg v2) (Nat.le_refl _)).trans (Keep.setCell _ (p:=⟨g,3,none⟩) hg v3) (Nat.le_refl _)).trans (Keep.setCell _ (p:=⟨g,4,none⟩) hg v4) (Nat.le_refl _)
theorem some_ok {α : Type} {a : α} {r:List Tl} {y:Except (Int × Int) (α × List Tl)} (h:Rd.ok a r=some y):y = .ok (a,r):=by
 injection h with h
 exact h.symm
set_option maxRecDepth 100000 in
set_option maxHeartbeats 2000000 in
theorem head_step {rb last f:Nat} (R:AllR rb last f) (w:World) (l:List Tl) (y:Except (Int × Int) (Tree × List Tl)) (h:St w rb last l) (hy:headS last (fns last f) l=some y) :
  Calls Tryz.prog 159 #[rdP rb] w (PostS rb last w (NodeV w.heap.size) y):=by
 have hlt:=h.lt
 have HS:=Lib.hid (h.alloc (.cells zeroN 29))
 have hk:=Blk.new w 29 zeroN
 have HT:=Lib.hid (alloc_turn w rb (.cells zeroN 29))
 unfold headS at hy
 clear h
 go_enter Tryz.func159,Tryz.ntmps159
 rcases bind_some hy with ⟨⟨c,ln⟩,h1,rfl⟩ | ⟨_,r,h1,h2⟩
 ·go_wp2_with fail
  refine (must1 HS.out ⟨#[40]⟩ _ ?hn _ h1).mono ?_
  case hn=>simp
  rintro e w2 ⟨rfl,ht2⟩
  exact ⟨rfl,PostS.err rfl (HT.out.trans ht2)⟩
 have HM:=Lib.hid h1
 clear h1 hy
 go_wp2_with fail
 refine (must1 HS.out ⟨#[40]⟩ _ ?hn _ HM.out).mono ?_
 case hn=>simp
 rintro e w2 ⟨⟨v2,rfl,-⟩,hs2,ht2⟩
 have HS2:=Lib.hid hs2
 have HT2:=Lib.hid (HT.out.trans ht2)
 have hk2:=hk.turn ht2 (by omega)
 have hz2:w.heap.size<w2.heap.size:=hk2.lt
 clear hs2 ht2 hk
 rcases bind_some h2 with ⟨⟨c,ln⟩,h1,rfl⟩ | ⟨x,r2,h1,h3⟩
 ·have HM2:=Lib.hid h1
  clear h1 h2
  go_wp2_with fail
  refine (R.expr _ _ _ HS2.out HM2.out).mono ?_
  rintro e w3 ⟨rfl,ht3⟩
  exact ⟨rfl,PostS.err rfl (HT2.out.trans ht3)⟩
 have HM2:=Lib.hid h1
 clear h1 h2
 go_wp2_with fail
 refine (R.expr _ _ _ HS2.out HM2.out).mono ?_
 rintro e w3 ⟨⟨v3,rfl,hok,d,sl,rfl,htr⟩,hs3,ht3⟩
 obtain ⟨A,cx,rfl⟩:=htr.form
 have HOK:=Lib.hid hok
 have HTR:=Lib.hid htr
 have hk3:=(hk2.turn ht3 (by omega)).alloc (.cells #[.int .i64 x.op,.string x.s,.int .i64 x.n,.slice A x.l.length cx,.int .i64 x.line] 29)
 have hn3:=Blk.new w3 29 #[.int .i64 x.op,.string x.s,.int .i64 x.n,.slice A x.l.length cx,.int .i64 x.line]
 have HS3:=Lib.hid (hs3.alloc (.cells #[.int .i64 x.op,.string x.s,.int .i64 x.n,.slice A x.l.length cx,.int .i64 x.line] 29))
 have HT3:=Lib.hid ((HT2.out.trans ht3).trans (alloc_turn w3 rb (.cells #[.int .i64 x.op,.string x.s,.int .i64 x.n,.slice A x.l.length cx,.int .i64 x.line] 29)))
 have HK3:=Lib.hid (Keep.alloc w2.heap.size w3 (.cells #[.int .i64 x.op,.string x.s,.int .i64 x.n,.slice A x.l.length cx,.int .i64 x.line] 29))
 have hz3:w2.heap.size≤w3.heap.size:=ht3.size
 clear hok htr hk2 hs3 ht3
 rcases bind_some h3 with ⟨⟨c,ln⟩,h1,rfl⟩ | ⟨_,r3,h1,h4⟩
 ·have HM3:=Lib.hid h1
  clear h1 h3
  go_wp2_with fail
  refine (must1 HS3.out ⟨#[41]⟩ _ ?hn4 _ HM3.out).mono ?_
  case hn4=>simp
  rintro e w4 ⟨rfl,ht4⟩
  exact ⟨rfl,PostS.err rfl (HT3.out.trans ht4)⟩
 obtain rfl:=some_ok h4
 have HM3:=Lib.hid h1
 clear h1 h3 h4
 go_wp2_with fail
 refine (must1 HS3.out ⟨#[41]⟩ _ ?hn _ HM3.out).mono ?_
 case hn=>simp
 rintro e w4 ⟨⟨v4,rfl,-⟩,hs4,ht4⟩
 have HS4:=Lib.hid hs4
 have HT4:=Lib.hid (HT3.out.trans ht4)
 have hk4:=hk3.turn ht4 (by omega)
 have HK4:=Lib.hid (HK3.out.trans (Keep.turn ht4 (B:=w2.heap.size) (by omega)) (Nat.le_refl _))
 have K4:=Lib.hid hk4
 obtain ⟨⟨b0,b1,b2,b3,b4⟩,g0,g1,g2,g3,g4⟩:=hk4.five
 obtain ⟨⟨a0,a1,a2,a3,a4⟩,-⟩:=(hn3.turn ht4 (by omega)).five
 clear hs4 ht4 hk4 hk3 hn3
 go_wp2
 refine ret_node (K4.out.set5 _ _ _ _ _) rfl rfl rfl ?_
 refine PostS.ok rfl ⟨HOK.out,d,_,rfl,?_⟩ (HS4.out.set5 (by omega) _ _ _ _ _) (HT4.out.set5 (Nat.le_refl _) _ _ _ _ _)
 have hkk:=HK4.out.trans (Keep.set5 (B:=w2.heap.size) w4 hz2 (.int .i64 x.op) (.string x.s) (.int .i64 x.n) (.slice A x.l.length cx) (.int .i64 x.line)) (Nat.le_refl _)
 exact (HTR.out.turn hkk.blk hkk.size).weaken (Nat.le_of_lt hz2)
end
section
open Go.RowKit Go.Sort
theorem ta_fault (a:Value) (w:World):Sem.run Tryz.prog (Instr.typeAssert (.iface 80 a) 20 80 true) w = .ok (.tuple #[a,.bool true]) w:=by kernel_rfl
theorem ta_nil (w:World):Sem.run Tryz.prog (Instr.typeAssert .nilIface 20 80 true) w = .ok (.tuple #[.agg #[.int .i64 0,.int .i64 0],.bool false]) w:=by kernel_rfl
set_option maxRecDepth 100000 in
set_option maxHeartbeats 2000000 in
theorem catch_idle (p q:Addr) (w:World) :
  CallsD Tryz.prog 47 #[.pointer (some p),.pointer (some q)] .returning w fun e u' w'=>e = .returned (.tuple #[])∧u' = .returning∧w'=w.alloc (.cells #[.int .i64 0,.int .i64 0] 80):=by
 have hta:=ta_nil
 refine callsD_of_wpS Tryz.func47 rfl fun c₀ cs hu => ?_
 apply wpS_seq
 apply wpS_region
 simp [wpOpsS,go_sem,recoverD,hu,Tryz.ntmps47,Exit.thenS,hta]
 refine wpS_of_wp ?_
 go_wp2
 cases c₀
 simp_all [bodyPostS,results,Tryz.results47]
set_option maxRecDepth 100000 in
set_option maxHeartbeats 2000000 in
theorem catch_fault (c ln:Int) (p q:Nat) (a0 a1 a2 a3 a4 b0:Value) (w:World) (hpq:p≠q) (hp:Blk w p 29 #[a0,a1,a2,a3,a4]) (hq:Blk w q 48 #[b0]) :
  CallsD Tryz.prog 47 #[.pointer (some ⟨p,0,none⟩),.pointer (some ⟨q,0,none⟩)] (.panicking (pan c ln)) w fun e u' w'=>e = .returned (.tuple #[])∧settle u' = .returning ∧
   ∃ j g,Blk w' p 29 zeroN∧Blk w' q 48 #[.iface 115 (.pointer (some ⟨j,0,none⟩))]∧w'.cell? ⟨j,0,none⟩=some (.slice (some ⟨g,0,none⟩) 1 1)∧w'.cell? ⟨g,0,none⟩=some (faultV c ln)∧j<w'.heap.size∧g<w'.heap.size∧Turn (fun k=>k=p∨k=q) w w':=by
 have hta:=ta_fault (.agg #[.int .i64 c,.int .i64 ln])
 have hlp:=hp.lt
 have hlq:=hq.lt
 have HP:=Lib.hid hp
 have HQ:=Lib.hid hq
 clear hp hq
 unfold pan
 refine callsD_of_wpS Tryz.func47 rfl fun c₀ cs hu => ?_
 simp only [Tryz.ntmps47,List.size_toArray,List.length_cons,List.length_nil,Nat.reduceAdd,Nat.reduceSub,Array.replicate_succ,Array.replicate_zero,List.push_toArray,List.append_toArray,List.nil_append,List.cons_append]
 apply wpS_seq
 apply wpS_region
 simp [wpOpsS,go_sem,recoverD,hu,Exit.thenS,hta]
 refine wpS_of_wp ?_
 have hE:=Blk.new (w.alloc (.cells #[.int .i64 c,.int .i64 ln] 80)) 48 #[.iface 80 (.agg #[.int .i64 c,.int .i64 ln])]
 rw [World.size_alloc] at hE
 have HJ:=Lib.hid (join_calls c ln (w.heap.size+1) ((w.alloc (.cells #[.int .i64 c,.int .i64 ln] 80)).alloc (.cells #[.iface 80 (.agg #[.int .i64 c,.int .i64 ln])] 48)) (hE.cell 0) hE.lt)
 clear hE
 go_wp2_with fail
 refine HJ.out.mono ?_
 rintro e w5 ⟨j,g,rfl,hj0,hg0,hjc,hgc,hlg,hlj,hb⟩
 have hp5:=((HP.out.alloc (.cells #[.int .i64 c,.int .i64 ln] 80)).alloc (.cells #[.iface 80 (.agg #[.int .i64 c,.int .i64 ln])] 48)).keep (hb.block p (by rw [World.size_alloc,World.size_alloc];omega))
 have hq5:=((HQ.out.alloc (.cells #[.int .i64 c,.int .i64 ln] 80)).alloc (.cells #[.iface 80 (.agg #[.int .i64 c,.int .i64 ln])] 48)).keep (hb.block q (by rw [World.size_alloc,World.size_alloc];omega))
 have t5:Turn (fun k=>k=p∨k=q) w w5:=Turn.trans (Turn.alloc (Turn.alloc (Turn.refl (fun k=>k=p∨k=q) w) (.cells #[.int .i64 c,.int .i64 ln] 80)) (.cells #[.iface 80 (.agg #[.int .i64 c,.int .i64 ln])] 48)) ((Turn.of_below hb).mono (fun _ _ x=>x.elim)) (fun _ _ e=>e)
 rw [World.size_alloc,World.size_alloc] at hj0 hg0
 obtain ⟨⟨p0,p1,p2,p3,p4⟩,q0,q1,q2,q3,q4⟩:=hp5.five
 have r0:=hq5.cell 0
 have r1:=hq5.frozen 0
 simp only [List.getElem?_toArray,List.getElem?_cons_zero] at r0
 have HP5:=Lib.hid ((hp5.set5 (.int .i64 0) (.string ⟨#[]⟩) (.int .i64 0) (.slice none 0 0) (.int .i64 0)).far (p:=⟨q,0,none⟩) hpq (.iface 115 (.pointer (some ⟨j,0,none⟩))))
 have hq6:Blk (sets5 w5 p (.int .i64 0) (.string ⟨#[]⟩) (.int .i64 0) (.slice none 0 0) (.int .i64 0)) q 48 #[b0]:=((((hq5.far (p:=⟨p,0,none⟩) (Ne.symm hpq) _).far (p:=⟨p,1,none⟩) (Ne.symm hpq) _).far (p:=⟨p,2,none⟩) (Ne.symm hpq) _).far (p:=⟨p,3,none⟩) (Ne.symm hpq) _).far (p:=⟨p,4,none⟩) (Ne.symm hpq) _
 have HQ5:Hid (Blk ((sets5 w5 p (.int .i64 0) (.string ⟨#[]⟩) (.int .i64 0) (.slice none 0 0) (.int .i64 0)).setCell ⟨q,0,none⟩ (.iface 115 (.pointer (some ⟨j,0,none⟩)))) q 48 #[.iface 115 (.pointer (some ⟨j,0,none⟩))]):=Lib.hid (by simpa using hq6.set_ 0 (.iface 115 (.pointer (some ⟨j,0,none⟩))))
 have T5:Hid (Turn (fun k=>k=p∨k=q) w ((sets5 w5 p (.int .i64 0) (.string ⟨#[]⟩) (.int .i64 0) (.slice none 0 0) (.int .i64 0)).setCell ⟨q,0,none⟩ (.iface 115 (.pointer (some ⟨j,0,none⟩))))):=Lib.hid (by
  have u1:=Turn.setCell t5 (p:=⟨p,0,none⟩) (fun _=>Or.inl rfl) (.int .i64 0)
  have u2:=Turn.setCell u1 (p:=⟨p,1,none⟩) (fun _=>Or.inl rfl) (.string ⟨#[]⟩)
  have u3:=Turn.setCell u2 (p:=⟨p,2,none⟩) (fun _=>Or.inl rfl) (.int .i64 0)
  have u4:=Turn.setCell u3 (p:=⟨p,3,none⟩) (fun _=>Or.inl rfl) (.slice none 0 0)
  have u5:=Turn.setCell u4 (p:=⟨p,4,none⟩) (fun _=>Or.inl rfl) (.int .i64 0)
  exact Turn.setCell u5 (p:=⟨q,0,none⟩) (fun _=>Or.inr rfl) _)
 have hjq:j≠q:=by omega
 have hgq:g≠q:=by omega
 have hjp:j≠p:=by omega
 have hgp:g≠p:=by omega
 have HC:Hid (((sets5 w5 p (.int .i64 0) (.string ⟨#[]⟩) (.int .i64 0) (.slice none 0 0) (.int .i64 0)).setCell ⟨q,0,none⟩ (.iface 115 (.pointer (some ⟨j,0,none⟩)))).heap[j]? = w5.heap[j]? ∧ ((sets5 w5 p (.int .i64 0) (.string ⟨#[]⟩) (.int .i64 0) (.slice none 0 0) (.int .i64 0)).setCell ⟨q,0,none⟩ (.iface 115 (.pointer (some ⟨j,0,none⟩)))).heap[g]? = w5.heap[g]?):=Lib.hid (by
  unfold sets5
  constructor
  ·rw [Below.heap_setCell _ _ _ _ hjq,Below.heap_setCell _ _ _ _ hjp,Below.heap_setCell _ _ _ _ hjp,Below.heap_setCell _ _ _ _ hjp,Below.heap_setCell _ _ _ _ hjp,Below.heap_setCell _ _ _ _ hjp]
  ·rw [Below.heap_setCell _ _ _ _ hgq,Below.heap_setCell _ _ _ _ hgp,Below.heap_setCell _ _ _ _ hgp,Below.heap_setCell _ _ _ _ hgp,Below.heap_setCell _ _ _ _ hgp,Below.heap_setCell _ _ _ _ hgp])
 have HJC:=Lib.hid hjc
 have HGC:=Lib.hid hgc
 have HLJ:=Lib.hid hlj
 have HLG:=Lib.hid hlg
 have hqp:q≠p:=Ne.symm hpq
 clear hp5 hq5 hq6 hb t5 hjc hgc
 go_wp2
 have k1:=HP5.out
 have k2:=HQ5.out
 have k3:=T5.out
 have k4:=HC.out
 have k5:(((((((w5.setCell ⟨p,0,none⟩ (.int .i64 0)).setCell ⟨p,1,none⟩ (.string ⟨#[]⟩)).setCell ⟨p,2,none⟩ (.int .i64 0)).setCell ⟨p,3,none⟩ (.slice none 0 0)).setCell ⟨p,4,none⟩ (.int .i64 0)).setCell ⟨q,0,none⟩ (.iface 115 (.pointer (some ⟨j,0,none⟩))))).heap.size=w5.heap.size:=by simp only [World.size_setCell]
 unfold sets5 at k1 k2 k3 k4
 clear HP5 HQ5 T5 HC
 generalize ((((((w5.setCell ⟨p,0,none⟩ (.int .i64 0)).setCell ⟨p,1,none⟩ (.string ⟨#[]⟩)).setCell ⟨p,2,none⟩ (.int .i64 0)).setCell ⟨p,3,none⟩ (.slice none 0 0)).setCell ⟨p,4,none⟩ (.int .i64 0)).setCell ⟨q,0,none⟩ (.iface 115 (.pointer (some ⟨j,0,none⟩))))=w6 at k1 k2 k3 k4 k5 ⊢
 have k6:=(World.cell?_of_block k4.1).trans HJC.out
 have k7:=(World.cell?_of_block k4.2).trans HGC.out
 have k8:j<w6.heap.size:=by rw [k5];exact HLJ.out
 have k9:g<w6.heap.size:=by rw [k5];exact HLG.out
 have hre : ∀ (tm:Array Value) (W:World),(results Tryz.f47 tm).run Tryz.prog W = .ok (.tuple #[]) W:=fun _ _=>by kernel_rfl
 refine ⟨rfl,.panicking [{ v := .iface 80 (.agg #[.int .i64 c,.int .i64 ln]),recovered:=true }],rfl,.tuple #[],hre _ _,rfl,rfl,?_⟩
 exact ⟨k1,j,k2,g,k6,k7,k8,k9,k3⟩
end
section
open Go.RowKit Go.Sort
theorem TrU.of_blk {B:Nat} {W:World} {t:TypeId} {ps:List (Tree × Value)} {g c:Nat} (hB:B≤g) (hlen:ps.length≤maxLen) (hc:ps.length≤c) (hb:Blk W g t (flatN ps).toArray) (hp : ∀ p,p ∈ ps→p.1.ok ∧ ∃ d,TrU B W d p.1.l p.2) : ∃ d,TrU B W d (ps.map Prod.fst) (.slice (some ⟨g,0,none⟩) ps.length c) :=
 TrU.of_cells ⟨hB,hb.lt⟩ hlen hc (fun i _=>by rw [hb.cell i];simp) hp
theorem nd_ok {op ln:Int} {s:List UInt8} {l:List Tree} (hs:s.length≤maxLen) (h:(Lit.int .i64 op).wf=true):(nd op s l ln).ok:=⟨by simpa [nd,Tree.s,bytesA,ByteArray.size] using hs,h,by show (Lit.int .i64 0).wf=true;decide⟩
theorem nd_tv {B:Nat} {W:World} {t:TypeId} {op ln:Int} {s:List UInt8} {ps:List (Tree × Value)} {g:Nat} (hok:(nd op s (ps.map Prod.fst) ln).ok) (hB:B≤g) (hlen:ps.length≤maxLen) (hb:Blk W g t (flatN ps).toArray) (hp : ∀ p,p ∈ ps→p.1.ok ∧ ∃ d,TrU B W d p.1.l p.2) :
  TV B W (nd op s (ps.map Prod.fst) ln) (.agg #[.int .i64 op,.string (bytesA s),.int .i64 0,.slice (some ⟨g,0,none⟩) ps.length ps.length,.int .i64 ln]):=by
 obtain ⟨d,h⟩:=TrU.of_blk hB hlen (Nat.le_refl _) hb hp
 exact ⟨hok,d,_,rfl,h⟩
theorem fin_row {rb last:Nat} {w w5:World} {r:List Tl} (hlt:rb<w.heap.size) (hs5:St w5 rb last r) (hT5:TurnR rb w w5) (T:TypeId) (v0 v1 v2 v3 v4:Value) {ps:List (Tree × Value)} (hlen:ps.length≤maxLen) (hp : ∀ p,p ∈ ps→p.1.ok ∧ ∃ d,TrU (w.heap.size+1) w5 d p.1.l p.2) :
  St ((sets5 w5 w.heap.size v0 v1 v2 v3 v4).alloc (.cells (flatN ps).toArray T)) rb last r∧TurnR rb w ((sets5 w5 w.heap.size v0 v1 v2 v3 v4).alloc (.cells (flatN ps).toArray T)) ∧
   ∀ (op ln:Int) (s:ByteArray),∃ d sl,Value.agg #[.int .i64 op,.string s,.int .i64 0,.slice (some ⟨w5.heap.size,0,none⟩) ps.length ps.length,.int .i64 ln] = .agg #[.int .i64 op,.string s,.int .i64 0,sl,.int .i64 ln]∧TrU w.heap.size ((sets5 w5 w.heap.size v0 v1 v2 v3 v4).alloc (.cells (flatN ps).toArray T)) d (ps.map Prod.fst) sl:=by
 have hsz:w.heap.size≤w5.heap.size:=hT5.size
 have hK:=(Keep.set5 (B:=w.heap.size+1) w5 (Nat.lt_succ_self _) v0 v1 v2 v3 v4).trans (Keep.alloc (w.heap.size+1) (sets5 w5 w.heap.size v0 v1 v2 v3 v4) (.cells (flatN ps).toArray T)) (Nat.le_refl _)
 refine ⟨(hs5.set5 hlt _ _ _ _ _).alloc _,(hT5.set5 (Nat.le_refl _) _ _ _ _ _).alloc _,fun op ln s => ?_⟩
 have hsz5:(sets5 w5 w.heap.size v0 v1 v2 v3 v4).heap.size=w5.heap.size:=by simp [sets5,World.setCell]
 have hnew:=Blk.new (sets5 w5 w.heap.size v0 v1 v2 v3 v4) T (flatN ps).toArray
 rw [hsz5] at hnew
 generalize hs5w:sets5 w5 w.heap.size v0 v1 v2 v3 v4=wq at *
 obtain ⟨d,h⟩:=TrU.of_blk (W:=wq.alloc (.cells (flatN ps).toArray T)) (B:=w.heap.size) (g:=w5.heap.size) hsz hlen (Nat.le_refl _) hnew (fun p hm=>by
  obtain ⟨h1,d,h2⟩:=hp p hm
  exact ⟨h1,d,(h2.turn hK.blk hK.size).weaken (Nat.le_succ _)⟩)
 exact ⟨d,_,rfl,h⟩
theorem goneAny {G:Prop} (w:World) (h:G) (_:wpAny Tryz.prog .any #[] (fun _ _ _=>True) 0 #[] { tmps:=#[],defers:=[] } w):G:=h
set_option maxRecDepth 100000 in
set_option maxHeartbeats 2000000 in
theorem expr_step {rb last f:Nat} (R:AllR rb last f) (w:World) (l:List Tl) (y:Except (Int × Int) (Tree × List Tl)) (h:St w rb last l) (hy:exprS (fns last f) l=some y) :
  Calls Tryz.prog 27 #[rdP rb] w (PostS rb last w (NodeV w.heap.size) y):=by
 have hlt:=h.lt
 have HS:=Lib.hid (h.alloc (.cells zeroN 29))
 have hk:=Blk.new w 29 zeroN
 have HT:=Lib.hid (alloc_turn w rb (.cells zeroN 29))
 unfold exprS at hy
 clear h
 go_enter Tryz.func27,Tryz.ntmps27
 rcases bind_some hy with ⟨⟨c,ln⟩,h1,rfl⟩ | ⟨⟨x,b⟩,r,h1,h2⟩
 ·have HM:=Lib.hid h1
  clear h1 hy
  go_wp2_with fail
  refine (R.cond _ _ _ HS.out HM.out).mono ?_
  rintro e w2 ⟨rfl,ht2⟩
  exact ⟨rfl,PostS.err rfl (HT.out.trans ht2)⟩
 have HM:=Lib.hid h1
 clear h1 hy
 go_wp2_with fail
 refine (R.cond _ _ _ HS.out HM.out).mono ?_
 rintro e w2 ⟨⟨_,rfl,_,rfl,hok,d,sl,rfl,htr⟩,hs2,ht2⟩
 obtain ⟨A,cx,rfl⟩:=htr.form
 have HOK:=Lib.hid hok
 have HTR:=Lib.hid htr
 have hk2:=(hk.turn ht2 (by omega)).alloc (.cells #[.int .i64 x.op,.string x.s,.int .i64 x.n,.slice A x.l.length cx,.int .i64 x.line] 29)
 have hn2:=Blk.new w2 29 #[.int .i64 x.op,.string x.s,.int .i64 x.n,.slice A x.l.length cx,.int .i64 x.line]
 have HS2:=Lib.hid (hs2.alloc (.cells #[.int .i64 x.op,.string x.s,.int .i64 x.n,.slice A x.l.length cx,.int .i64 x.line] 29))
 have HT2:=Lib.hid ((HT.out.trans ht2).trans (alloc_turn w2 rb (.cells #[.int .i64 x.op,.string x.s,.int .i64 x.n,.slice A x.l.length cx,.int .i64 x.line] 29)))
 have HK2:=Lib.hid (Keep.alloc (w.heap.size+1) w2 (.cells #[.int .i64 x.op,.string x.s,.int .i64 x.n,.slice A x.l.length cx,.int .i64 x.line] 29))
 have hz2:w.heap.size+1≤w2.heap.size:=by have:=ht2.size;simp at this;omega
 rw [World.size_alloc] at HTR
 clear hok htr hs2 ht2 hk
 have alone : ∀ (w3:World) (r3:List Tl),St w3 rb last r3→TurnR rb (w2.alloc (.cells #[.int .i64 x.op,.string x.s,.int .i64 x.n,.slice A x.l.length cx,.int .i64 x.line] 29)) w3 →
   PostS rb last w (NodeV w.heap.size) (.ok (x,r3)) (.returned (.agg #[.int .i64 x.op,.string x.s,.int .i64 x.n,.slice A x.l.length cx,.int .i64 x.line])) (sets5 w3 w.heap.size (.int .i64 x.op) (.string x.s) (.int .i64 x.n) (.slice A x.l.length cx) (.int .i64 x.line)):=by
  intro w3 r3 hs3 ht3
  refine PostS.ok rfl ⟨HOK.out,d,_,rfl,?_⟩ (hs3.set5 (by omega) _ _ _ _ _) ((HT2.out.trans ht3).set5 (Nat.le_refl _) _ _ _ _ _)
  have hkk:=(HK2.out.trans (Keep.turn ht3 (B:=w.heap.size+1) (by omega)) (Nat.le_refl _)).trans (Keep.set5 (B:=w.heap.size+1) w3 (Nat.lt_succ_self _) (.int .i64 x.op) (.string x.s) (.int .i64 x.n) (.slice A x.l.length cx) (.int .i64 x.line)) (Nat.le_refl _)
  exact (HTR.out.turn hkk.blk hkk.size).weaken (Nat.le_succ _)
 have AL:=Lib.hid alone
 clear alone
 cases b with
 | false =>
  obtain rfl:=some_ok (show Rd.ok x r=some y from h2)
  clear h2
  have K4:=Lib.hid hk2
  obtain ⟨⟨b0,b1,b2,b3,b4⟩,g0,g1,g2,g3,g4⟩:=hk2.five
  obtain ⟨⟨a0,a1,a2,a3,a4⟩,-⟩:=hn2.five
  clear hk2 hn2
  go_wp2
  refine ret_node (K4.out.set5 _ _ _ _ _) rfl rfl rfl ?_
  exact AL.out _ _ HS2.out (Turn.refl _ _)
 | true =>
  cases ha:atF [[61]] r with
  | false =>
   rw [ha] at h2
   obtain rfl:=some_ok (show Rd.ok x r=some y from h2)
   clear h2
   go_wp2_with fail
   refine (takes1 HS2.out ⟨#[61]⟩ _ ?hn _ ha).mono ?_
   case hn=>simp
   rintro e w4 ⟨rfl,hs4,ht4⟩
   have HS4:Hid (St w4 rb last r):=Lib.hid (by simpa using hs4)
   have HT4:=Lib.hid ht4
   have hk4:=hk2.turn ht4 (by omega)
   have K4:=Lib.hid hk4
   obtain ⟨⟨b0,b1,b2,b3,b4⟩,g0,g1,g2,g3,g4⟩:=hk4.five
   obtain ⟨⟨a0,a1,a2,a3,a4⟩,-⟩:=(hn2.turn ht4 (by omega)).five
   clear hk2 hn2 hs4 ht4 hk4
   go_wp2
   refine ret_node (K4.out.set5 _ _ _ _ _) rfl rfl rfl ?_
   exact AL.out _ _ HS4.out HT4.out
  | true =>
   rw [ha] at h2
   have h2:((fns last f).expr r.tail).bind (fun z q=>Rd.ok (nd 17 [] [x,z] x.line) q)=some y:=h2
   go_wp2_with fail
   refine (takes1 HS2.out ⟨#[61]⟩ _ ?hn2 _ ha).mono ?_
   case hn2=>simp
   rintro e w4 ⟨rfl,hs4,ht4⟩
   have HS4:Hid (St w4.drew rb last r.tail):=Lib.hid (St.below (by simpa using hs4) ((Below.refl _ _).drew))
   have HT4:=Lib.hid (HT2.out.trans ht4).drew
   have HK4:=Lib.hid ((HK2.out.trans (Keep.turn ht4 (B:=w.heap.size+1) (by omega)) (Nat.le_refl _)).trans (Keep.drew _ w4) (Nat.le_refl _))
   have hk4:=hk2.turn ht4 (by omega)
   have hn4:=hn2.turn ht4 (by omega)
   have hwr:w.heap.size≠rb:=by omega
   have hw2r:w2.heap.size≠rb:=by omega
   have hw2w:w2.heap.size≠w.heap.size:=by omega
   have hz4:w2.heap.size<w4.heap.size:=hn4.lt
   obtain ⟨⟨a0,a1,a2,a3,a4⟩,-⟩:=hn4.five
   clear hk2 hn2 hs4 ht4 AL
   rcases bind_some h2 with ⟨⟨c,ln⟩,h1,rfl⟩ | ⟨z,r2,h1,h3⟩
   ·have HM2:=Lib.hid h1
    clear h1 h2
    go_wp2
    go_region_with (first
     | (go_at_call 27;refine (R.expr _ _ _ HS4.out HM2.out).mono ?_;rintro e w5 ⟨rfl,ht5⟩;refine goneAny w5 ⟨rfl,PostS.err rfl (TurnR.trans HT4.out ht5)⟩ ?_))
    all_goals trivial
   ·have HM2:=Lib.hid h1
    have SC:Hid (∀ w9,Turn (fun k=>k=rb∨k=w.heap.size) w4.drew w9→w9.cell? ⟨w2.heap.size,0,none⟩=some (.int .i64 x.op)∧w9.cell? ⟨w2.heap.size,1,none⟩=some (.string x.s)∧w9.cell? ⟨w2.heap.size,2,none⟩=some (.int .i64 x.n)∧w9.cell? ⟨w2.heap.size,3,none⟩=some (.slice A x.l.length cx)∧w9.cell? ⟨w2.heap.size,4,none⟩=some (.int .i64 x.line)):=Lib.hid fun w9 h9=>(((hn4.keep (w':=w4.drew) rfl).turn h9 (by omega))).five.1
    have h40:Turn (fun k=>k=rb∨k=w.heap.size) w4.drew w4.drew:=Turn.refl _ _
    obtain rfl:=some_ok h3
    clear h1 h2 h3
    go_wp2
    go_region_held3 (fun w9=>w9.cell? ⟨w2.heap.size,0,none⟩=some (.int .i64 x.op)∧w9.cell? ⟨w2.heap.size,1,none⟩=some (.string x.s)∧w9.cell? ⟨w2.heap.size,2,none⟩=some (.int .i64 x.n)∧w9.cell? ⟨w2.heap.size,3,none⟩=some (.slice A x.l.length cx)∧w9.cell? ⟨w2.heap.size,4,none⟩=some (.int .i64 x.line)) ((refine SC.out _ ?_;repeat' (first | with_reducible assumption | with_reducible refine Turn.alloc ?_ _ | with_reducible refine Turn.setCell ?_ (fun _=>Or.inr rfl) _))) (first
     | (go_at_call 27;refine (R.expr _ _ _ HS4.out HM2.out).mono ?_;rintro e w5 ⟨⟨v5,rfl,hok5,d5,sl5,rfl,htr5⟩,hs5,ht5⟩;obtain ⟨A5,cx5,rfl⟩:=htr5.form;have ht5':Turn (fun k=>k=rb∨k=w.heap.size) w4.drew w5:=ht5.mono (fun _ _ e=>Or.inl e);have hk5:=(hk4.keep (w':=w4.drew) rfl).turn ht5 hwr;have hz5:=hk5.lt;have hs5':=((hn4.keep (w':=w4.drew) rfl).turn ht5 hw2r).lt;obtain ⟨⟨b0,b1,b2,b3,b4⟩,g0,g1,g2,g3,g4⟩:=hk5.five))
    go_wp2
    refine ret_node ((hk5.set5 _ _ _ _ _).alloc _) rfl rfl rfl ?_
    have hT5:TurnR rb w w5:=TurnR.trans HT4.out ht5
    have hK5:Keep (w.heap.size+1) w4.drew w5:=Keep.turn ht5 (by omega)
    have hK4:=HK4.out.trans hK5 (Nat.le_refl _)
    have hx:=HTR.out.turn hK4.blk hK4.size
    have hz:=htr5.weaken (B':=w.heap.size+1) (by show w.heap.size+1≤w4.heap.size;omega)
    obtain ⟨q1,q2,q3⟩:=fin_row hlt hs5 hT5 29 (.int .i64 17) (.string ⟨#[]⟩) (.int .i64 0) (.slice (some ⟨w5.heap.size,0,none⟩) 2 2) (.int .i64 x.line) (ps:=[(x,.slice A x.l.length cx),(z,.slice A5 z.l.length cx5)]) (by simp [maxLen]) (by
     intro p hp
     simp only [List.mem_cons,List.not_mem_nil,or_false] at hp
     rcases hp with rfl | rfl
     ·exact ⟨HOK.out,d,hx⟩
     ·exact ⟨hok5,d5,hz⟩)
    exact PostS.ok rfl ⟨nd_ok (by decide) (by decide),q3 17 x.line ⟨#[]⟩⟩ q1 q2
end
section
open Go.RowKit Go.Sort
theorem TrU.tr {rb B d:Nat} {a b:World} {l:List Tree} {v:Value} (h:TrU B a d l v) (t:TurnR rb a b) (hb:rb<B):TrU B b d l v:=h.turn (fun k hk hs=>t.block k hs (by omega)) t.size
theorem TrU.al {B d:Nat} {a:World} {l:List Tree} {v:Value} (h:TrU B a d l v) (o:Obj):TrU B (a.alloc o) d l v:=TrU.turn (Keep.alloc B a o).blk (Keep.alloc B a o).size h
theorem TrU.dr {B d:Nat} {a:World} {l:List Tree} {v:Value} (h:TrU B a d l v):TrU B a.drew d l v:=TrU.turn (Keep.drew B a).blk (Keep.drew B a).size h
theorem RowT.tr {rb B:Nat} {a b:World} {l:List Tree} {v:Value} (h:RowT B a l v) (t:TurnR rb a b) (hb:rb<B):RowT B b l v:=h.turn (fun k hk hs=>t.block k hs (by omega)) t.size
theorem TurnR.al {rb:Nat} {a b:World} (h:TurnR rb a b) (o:Obj):TurnR rb a (b.alloc o):=TurnR.trans h (alloc_turn b rb o)
theorem TurnR.dr {rb:Nat} {a b:World} (h:TurnR rb a b):TurnR rb a b.drew:=Turn.drew h
theorem St.dr {w:World} {rb last:Nat} {l:List Tl} (h:St w rb last l):St w.drew rb last l:=h.below (Below.refl _ _).drew
theorem Blk.dr {w:World} {g:Nat} {t:TypeId} {cs:Array Value} (h:Blk w g t cs):Blk w.drew g t cs:=h.keep rfl
theorem Blk.tr {rb:Nat} {a b:World} {g:Nat} {t:TypeId} {cs:Array Value} (h:Blk a g t cs) (k:TurnR rb a b) (hg:g≠rb):Blk b g t cs:=h.turn k hg
theorem ret_pair {fn:Func} {p q:Tmp} {R:Ending→World→Prop} {a:Act} {w:World} {g:Nat} {t:TypeId} {v0 v1 v2 v3 v4:Value} {b:Bool} (hk:Blk w g t #[v0,v1,v2,v3,v4]) (h:fn.results=#[.cell p 29,.tmp q]) (hd:a.defers=[]) (hp:a.tmps.getD p undef = .pointer (some ⟨g,0,none⟩)) (hq:a.tmps.getD q undef = .bool b)
  (hR:R (.returned (.tuple #[.agg #[v0,v1,v2,v3,v4],.bool b])) w):bodyPost Tryz.prog fn R .ret a w:=by
 refine bodyPost_ret ?_ hd hR
 rw [results_cell_tmp h,hp,hq]
 simp [asAddr,run_loadVar_row w g t 29 _ (0,0) _ hk Tryz.underlying29 rfl size_node,Result.andThen]
theorem fin_old {rb last:Nat} {w w5:World} {r:List Tl} {x:Tree} {A:Option Addr} {cx d:Nat} (hlt:rb<w.heap.size) (hs5:St w5 rb last r) (hT5:TurnR rb w w5) (hok:x.ok) (hx:TrU (w.heap.size+1) w5 d x.l (.slice A x.l.length cx)) :
  St (sets5 w5 w.heap.size (.int .i64 x.op) (.string x.s) (.int .i64 x.n) (.slice A x.l.length cx) (.int .i64 x.line)) rb last r∧TurnR rb w (sets5 w5 w.heap.size (.int .i64 x.op) (.string x.s) (.int .i64 x.n) (.slice A x.l.length cx) (.int .i64 x.line)) ∧
   TV w.heap.size (sets5 w5 w.heap.size (.int .i64 x.op) (.string x.s) (.int .i64 x.n) (.slice A x.l.length cx) (.int .i64 x.line)) x (.agg #[.int .i64 x.op,.string x.s,.int .i64 x.n,.slice A x.l.length cx,.int .i64 x.line]):=by
 have hk:=Keep.set5 (B:=w.heap.size+1) w5 (Nat.lt_succ_self _) (.int .i64 x.op) (.string x.s) (.int .i64 x.n) (.slice A x.l.length cx) (.int .i64 x.line)
 exact ⟨hs5.set5 hlt _ _ _ _ _,hT5.set5 (Nat.le_refl _) _ _ _ _ _,hok,d,_,rfl,(hx.turn hk.blk hk.size).weaken (Nat.le_succ _)⟩
theorem St.grown {W w':World} {rb last:Nat} {l:List Tl} {row:Option Nat} (h:St W rb last l) (hg:W.grownBy w' row) (hr : ∀ k,row=some k→rb<k):St w' rb last l:=by
 obtain ⟨A,c,h⟩:=h
 have hb : ∀ k,k≤rb→w'.heap[k]? = W.heap[k]? := fun k hk=>hg.block k (Nat.lt_of_le_of_lt hk h.lt) (fun e=>by have:=hr k e.symm;omega)
 have hbl:Below rb W w':=⟨hg.os,hg.tape,hg.output,hg.size,fun k hk=>hb k (Nat.le_of_lt hk)⟩
 exact ⟨A,c,h.blk.keep (hb rb (Nat.le_refl _)),h.toks.keep fun k hk=>hb k (Nat.le_of_lt hk),fun w9 h9=>h.laid w9 (hbl.trans h9)⟩
theorem TurnR.grown {rb:Nat} {a W w':World} {row:Option Nat} (h:TurnR rb a W) (hg:W.grownBy w' row) (hr : ∀ k,row=some k→a.heap.size≤k):TurnR rb a w':=Turn.grown h hg (fun k hk e=>absurd (hr k e) (by omega))
theorem Keep.grown {B:Nat} {W w':World} {row:Option Nat} (hg:W.grownBy w' row) (hr : ∀ k,row=some k→k<B):Keep B W w':=⟨fun i hi hs=>hg.block i hs (fun e=>by have:=hr i e.symm;omega),hg.size⟩
theorem TrU.far {B d:Nat} {a:World} {l:List Tree} {v:Value} (h:TrU B a d l v) {p:Addr} (hp:p.block<B) (u:Value):TrU B (a.setCell p u) d l v:=TrU.turn (Keep.setCell a hp u).blk (Keep.setCell a hp u).size h
theorem RowT.far {B:Nat} {a:World} {l:List Tree} {v:Value} (h:RowT B a l v) {p:Addr} (hp:p.block<B) (u:Value):RowT B (a.setCell p u) l v:=(Keep.setCell a hp u).row h (Nat.le_refl _)
theorem RowT.al {B:Nat} {a:World} {l:List Tree} {v:Value} (h:RowT B a l v) (o:Obj):RowT B (a.alloc o) l v:=(Keep.alloc B a o).row h (Nat.le_refl _)
theorem RowT.dr {B:Nat} {a:World} {l:List Tree} {v:Value} (h:RowT B a l v):RowT B a.drew l v:=(Keep.drew B a).row h (Nat.le_refl _)
theorem TurnR.set {rb:Nat} {a b:World} (h:TurnR rb a b) {p:Addr} (hp:a.heap.size≤p.block) (u:Value):TurnR rb a (b.setCell p u):=Turn.setCell h (fun e=>by omega) u
theorem St.set' {w:World} {rb last:Nat} {l:List Tl} (h:St w rb last l) {g j:Nat} (hp:rb<g) (v:Value):St (w.setCell ⟨g,j,none⟩ v) rb last l:=h.set hp v
theorem fin_rowt {rb last:Nat} {w w5:World} {r:List Tl} {acc:List Tree} {v:Value} (hlt:rb<w.heap.size) (hs5:St w5 rb last r) (hT5:TurnR rb w w5) (hr:RowT (w.heap.size+1) w5 acc v) (hlen:acc.length≤1000000) (v0 v1 v2 v3 v4:Value) :
  St (sets5 w5 w.heap.size v0 v1 v2 v3 v4) rb last r∧TurnR rb w (sets5 w5 w.heap.size v0 v1 v2 v3 v4) ∧ ∃ d,TrU w.heap.size (sets5 w5 w.heap.size v0 v1 v2 v3 v4) d acc v:=by
 have hk:=Keep.set5 (B:=w.heap.size+1) w5 (Nat.lt_succ_self _) v0 v1 v2 v3 v4
 refine ⟨hs5.set5 hlt _ _ _ _ _,hT5.set5 (Nat.le_refl _) _ _ _ _ _,?_⟩
 obtain ⟨d,h⟩:=hr.trees (by simp only [maxLen];omega)
 exact ⟨d,(h.turn hk.blk hk.size).weaken (Nat.le_succ _)⟩
theorem RowT.own {B:Nat} {W:World} {acc:List Tree} {v:Value} (h:RowT B W acc v) : ∀ k,v.ownBlock=some k→B≤k∧k<W.heap.size:=by
 obtain ⟨l,_,h2,_⟩:=h
 exact h2.lt
theorem RowT.one {B lo d cx:Nat} {w5:World} {x:Tree} {A:Option Addr} (hB:B≤w5.heap.size) (hlo:B≤lo) (hok:x.ok) (h:TrU lo w5 d x.l (.slice A x.l.length cx)) :
  RowT B (w5.alloc (.cells #[.int .i64 x.op,.string x.s,.int .i64 x.n,.slice A x.l.length cx,.int .i64 x.line] 29)) [x] (.slice (some ⟨w5.heap.size,0,none⟩) 1 1):=by
 have e:(flatN [(x,.slice A x.l.length cx)]).toArray=#[.int .i64 x.op,.string x.s,.int .i64 x.n,.slice A x.l.length cx,.int .i64 x.line]:=rfl
 have hb:=Blk.new w5 29 (flatN [(x,.slice A x.l.length cx)]).toArray
 rw [e] at hb
 have h2:TrP (fun k=>lo≤k∧k<w5.heap.size) (w5.alloc (.cells #[.int .i64 x.op,.string x.s,.int .i64 x.n,.slice A x.l.length cx,.int .i64 x.line] 29)) d x.l (.slice A x.l.length cx):=h.lt.turn (fun k _ hs=>(Keep.alloc 0 w5 _).blk k (Nat.zero_le _) hs) (Keep.alloc 0 w5 _).size
 generalize hW:w5.alloc (.cells #[.int .i64 x.op,.string x.s,.int .i64 x.n,.slice A x.l.length cx,.int .i64 x.line] 29)=W at *
 refine RowT.made (l:=[(x,.slice A x.l.length cx)]) hB (by simp [maxLen]) (by rw [e];exact hb) ?_
 intro p hp
 simp only [List.mem_singleton] at hp
 subst hp
 exact ⟨hok,d,h2.weaken fun k _ hk=>⟨by omega,by omega⟩⟩
theorem Rd.bind_some_ok {α β : Type} {a : α} {r:List Tl} {g : α → List Tl→Rd β}:(Rd.ok a r).bind g=g a r:=rfl
end
end Go.Proofs.YtjjdmiaonkailaaGreatDoor
