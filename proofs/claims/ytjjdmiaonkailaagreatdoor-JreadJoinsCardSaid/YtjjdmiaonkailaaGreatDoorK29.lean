/- Walks and plain laws, packed: RdF, RdH, RdI, RdJ. -/
import Derived.Test.YtjjdmiaonkailaaGreatDoorK19
import Derived.Deep.RegionHeld3
import Derived.Deep.RegionWith
import Derived.Deep.AppendLies
import Derived.Deep.LoopGhost
import Derived.Test.YtjjdmiaonkailaaGreatDoorK03
import Derived.WalkMore
namespace Go.Proofs.YtjjdmiaonkailaaGreatDoor
section
open Go.RowKit Go.Sort
set_option maxRecDepth 100000 in
set_option maxHeartbeats 2000000 in
theorem cond_step {rb last f:Nat} (R:AllR rb last f) (w:World) (l:List Tl) (y:Except (Int × Int) ((Tree × Bool) × List Tl)) (h:St w rb last l) (hy:condS last (fns last f) l=some y) :
  Calls Tryz.prog 50 #[rdP rb] w (PostS rb last w (PairV w.heap.size) y):=by
 have hlt:=h.lt
 have HS:=Lib.hid (h.alloc (.cells zeroN 29))
 have hk:=Blk.new w 29 zeroN
 have HT:=Lib.hid (alloc_turn w rb (.cells zeroN 29))
 unfold condS at hy
 clear h
 go_enter Tryz.func50,Tryz.ntmps50
 rcases bind_some hy with ⟨⟨c,ln⟩,h1,rfl⟩ | ⟨⟨x,b⟩,r,h1,h2⟩
 ·have HM:=Lib.hid h1
  clear h1 hy
  go_wp2_with fail
  refine (R.level 0 _ _ _ (by omega) HS.out HM.out).mono ?_
  rintro e w2 ⟨rfl,ht2⟩
  exact ⟨rfl,PostS.err rfl (TurnR.trans HT.out ht2)⟩
 have HM:=Lib.hid h1
 clear h1 hy
 go_wp2_with fail
 refine (R.level 0 _ _ _ (by omega) HS.out HM.out).mono ?_
 rintro e w2 ⟨⟨_,rfl,_,rfl,hok,d,sl,rfl,htr⟩,hs2,ht2⟩
 obtain ⟨A,cx,rfl⟩:=htr.form
 have HOK:=Lib.hid hok
 rw [World.size_alloc] at htr
 have HTR:=Lib.hid (htr.al (.cells #[.int .i64 x.op,.string x.s,.int .i64 x.n,.slice A x.l.length cx,.int .i64 x.line] 29))
 have hk2:=(hk.tr ht2 (by omega)).alloc (.cells #[.int .i64 x.op,.string x.s,.int .i64 x.n,.slice A x.l.length cx,.int .i64 x.line] 29)
 have hn2:=Blk.new w2 29 #[.int .i64 x.op,.string x.s,.int .i64 x.n,.slice A x.l.length cx,.int .i64 x.line]
 have HS2:=Lib.hid (hs2.alloc (.cells #[.int .i64 x.op,.string x.s,.int .i64 x.n,.slice A x.l.length cx,.int .i64 x.line] 29))
 have HT2:=Lib.hid ((TurnR.trans HT.out ht2).al (.cells #[.int .i64 x.op,.string x.s,.int .i64 x.n,.slice A x.l.length cx,.int .i64 x.line] 29))
 have hz2:w.heap.size+1≤w2.heap.size:=by have:=ht2.size;simp at this;omega
 clear hok htr hs2 ht2 hk
 cases ha:atF [[63]] r with
 | false =>
  rw [ha] at h2
  obtain rfl:=some_ok (show Rd.ok (x,b) r=some y from h2)
  clear h2
  go_wp2_with fail
  refine (takes1 HS2.out ⟨#[63]⟩ _ ?hn _ ha).mono ?_
  case hn=>simp
  rintro e w4 ⟨rfl,hs4,ht4⟩
  have HS4:Hid (St w4 rb last r):=Lib.hid (by simpa using hs4)
  have HT4:=Lib.hid (TurnR.trans HT2.out ht4)
  have HTR4:=Lib.hid (HTR.out.tr ht4 (by omega))
  have hk4:=hk2.tr ht4 (by omega)
  have K4:=Lib.hid hk4
  obtain ⟨⟨b0,b1,b2,b3,b4⟩,g0,g1,g2,g3,g4⟩:=hk4.five
  obtain ⟨⟨a0,a1,a2,a3,a4⟩,-⟩:=(hn2.tr ht4 (by omega)).five
  clear hk2 hn2 hs4 ht4 hk4
  go_wp2
  refine ret_pair (K4.out.set5 _ _ _ _ _) rfl rfl rfl rfl ?_
  obtain ⟨q1,q2,q3⟩:=fin_old hlt HS4.out HT4.out HOK.out HTR4.out
  exact PostS.ok rfl ⟨_,rfl,q3⟩ q1 q2
 | true =>
  rw [ha] at h2
  have h2:((fns last f).expr r.tail).bind (fun a r2=>(mustF last [58] r2).bind fun _ r3=>((fns last f).expr r3).bind fun b r4=>Rd.ok (nd 23 [] [x,a,b] x.line,false) r4)=some y:=h2
  go_wp2_with fail
  refine (takes1 HS2.out ⟨#[63]⟩ _ ?hn2 _ ha).mono ?_
  case hn2=>simp
  rintro e w4 ⟨rfl,hs4,ht4⟩
  have HS4:Hid (St w4 rb last r.tail):=Lib.hid (by simpa using hs4)
  have HT4:=Lib.hid (TurnR.trans HT2.out ht4)
  have HTR4:=Lib.hid (HTR.out.tr ht4 (by omega))
  have hk4:=hk2.tr ht4 (by omega)
  have hn4:=hn2.tr ht4 (by omega)
  have hz4:w2.heap.size<w4.heap.size:=hn4.lt
  clear hk2 hn2 hs4 ht4
  rcases bind_some h2 with ⟨⟨c,ln⟩,h1,rfl⟩ | ⟨y1,r2,h1,h3⟩
  ·have HM2:=Lib.hid h1
   clear h1 h2
   go_wp2_with fail
   refine (R.expr _ _ _ HS4.out HM2.out).mono ?_
   rintro e w5 ⟨rfl,ht5⟩
   exact ⟨rfl,PostS.err rfl (TurnR.trans HT4.out ht5)⟩
  have HM2:=Lib.hid h1
  clear h1 h2
  go_wp2_with fail
  refine (R.expr _ _ _ HS4.out HM2.out).mono ?_
  rintro e w5 ⟨⟨v5,rfl,hok5,d5,sl5,rfl,htr5⟩,hs5,ht5⟩
  obtain ⟨A5,c5,rfl⟩:=htr5.form
  have HOK5:=Lib.hid hok5
  have HTR5:=Lib.hid ((htr5.weaken (B':=w.heap.size+1) (by omega)).al (.cells #[.int .i64 y1.op,.string y1.s,.int .i64 y1.n,.slice A5 y1.l.length c5,.int .i64 y1.line] 29))
  have HTX5:=Lib.hid ((HTR4.out.tr ht5 (by omega)).al (.cells #[.int .i64 y1.op,.string y1.s,.int .i64 y1.n,.slice A5 y1.l.length c5,.int .i64 y1.line] 29))
  have hk5:=(hk4.tr ht5 (by omega)).alloc (.cells #[.int .i64 y1.op,.string y1.s,.int .i64 y1.n,.slice A5 y1.l.length c5,.int .i64 y1.line] 29)
  have hn5:=(hn4.tr ht5 (by omega)).alloc (.cells #[.int .i64 y1.op,.string y1.s,.int .i64 y1.n,.slice A5 y1.l.length c5,.int .i64 y1.line] 29)
  have hm5:=Blk.new w5 29 #[.int .i64 y1.op,.string y1.s,.int .i64 y1.n,.slice A5 y1.l.length c5,.int .i64 y1.line]
  have HS5:=Lib.hid (hs5.alloc (.cells #[.int .i64 y1.op,.string y1.s,.int .i64 y1.n,.slice A5 y1.l.length c5,.int .i64 y1.line] 29))
  have HT5:=Lib.hid ((TurnR.trans HT4.out ht5).al (.cells #[.int .i64 y1.op,.string y1.s,.int .i64 y1.n,.slice A5 y1.l.length c5,.int .i64 y1.line] 29))
  have hz5:w4.heap.size≤w5.heap.size:=ht5.size
  clear hok5 htr5 hs5 ht5 hk4 hn4
  rcases bind_some h3 with ⟨⟨c,ln⟩,h1,rfl⟩ | ⟨_,r3,h1,h4⟩
  ·have HM3:=Lib.hid h1
   clear h1 h3
   go_wp2_with fail
   refine (must1 HS5.out ⟨#[58]⟩ _ ?hn6 _ HM3.out).mono ?_
   case hn6=>simp
   rintro e w6 ⟨rfl,ht6⟩
   exact ⟨rfl,PostS.err rfl (TurnR.trans HT5.out ht6)⟩
  have HM3:=Lib.hid h1
  clear h1 h3
  go_wp2_with fail
  refine (must1 HS5.out ⟨#[58]⟩ _ ?hn7 _ HM3.out).mono ?_
  case hn7=>simp
  rintro e w6 ⟨⟨v6,rfl,-⟩,hs6,ht6⟩
  have HS6:=Lib.hid hs6.dr
  have HT6:=Lib.hid (TurnR.trans HT5.out ht6).dr
  have HTR6:=Lib.hid (HTX5.out.tr ht6 (by omega)).dr
  have HTR7:=Lib.hid (HTR5.out.tr ht6 (by omega)).dr
  have hk6:=(hk5.tr ht6 (by omega)).dr
  have hn6:=(hn5.tr ht6 (by omega)).dr
  have hm6:=(hm5.tr ht6 (by omega)).dr
  have hwr:w.heap.size≠rb:=by omega
  have hw2r:w2.heap.size≠rb∧w2.heap.size≠w.heap.size:=by omega
  have hw5r:w5.heap.size≠rb∧w5.heap.size≠w.heap.size:=by omega
  have hz6:w5.heap.size<w6.heap.size:=hm6.lt
  obtain ⟨⟨a0,a1,a2,a3,a4⟩,-⟩:=hn6.five
  obtain ⟨⟨e0,e1,e2,e3,e4⟩,-⟩:=hm6.five
  clear hk5 hn5 hm5 hs6 ht6
  rcases bind_some h4 with ⟨⟨c,ln⟩,h1,rfl⟩ | ⟨z,r4,h1,h5⟩
  ·have HM4:=Lib.hid h1
   clear h1 h4
   go_wp2
   go_region_with (first
    | (go_at_call 27;refine (R.expr _ _ _ HS6.out HM4.out).mono ?_;rintro e w7 ⟨rfl,ht7⟩;refine goneAny w7 ⟨rfl,PostS.err rfl (TurnR.trans HT6.out ht7)⟩ ?_))
   all_goals trivial
  ·have HM4:=Lib.hid h1
   have SC:Hid (∀ w9,Turn (fun k=>k=rb∨k=w.heap.size) w6.drew w9→(fun w9=>w9.cell? ⟨w2.heap.size,0,none⟩=some (.int .i64 x.op)∧w9.cell? ⟨w2.heap.size,1,none⟩=some (.string x.s)∧w9.cell? ⟨w2.heap.size,2,none⟩=some (.int .i64 x.n)∧w9.cell? ⟨w2.heap.size,3,none⟩=some (.slice A x.l.length cx)∧w9.cell? ⟨w2.heap.size,4,none⟩=some (.int .i64 x.line)∧w9.cell? ⟨w5.heap.size,0,none⟩=some (.int .i64 y1.op)∧w9.cell? ⟨w5.heap.size,1,none⟩=some (.string y1.s)∧w9.cell? ⟨w5.heap.size,2,none⟩=some (.int .i64 y1.n)∧w9.cell? ⟨w5.heap.size,3,none⟩=some (.slice A5 y1.l.length c5)∧w9.cell? ⟨w5.heap.size,4,none⟩=some (.int .i64 y1.line)) w9):=Lib.hid fun w9 h9=>by
    obtain ⟨⟨a0,a1,a2,a3,a4⟩,-⟩:=(hn6.turn h9 (by omega)).five
    obtain ⟨⟨e0,e1,e2,e3,e4⟩,-⟩:=(hm6.turn h9 (by omega)).five
    exact ⟨a0,a1,a2,a3,a4,e0,e1,e2,e3,e4⟩
   have h40:Turn (fun k=>k=rb∨k=w.heap.size) w6.drew w6.drew:=Turn.refl _ _
   obtain rfl:=some_ok h5
   clear h1 h4 h5
   go_wp2
   go_region_held3 (fun w9=>w9.cell? ⟨w2.heap.size,0,none⟩=some (.int .i64 x.op)∧w9.cell? ⟨w2.heap.size,1,none⟩=some (.string x.s)∧w9.cell? ⟨w2.heap.size,2,none⟩=some (.int .i64 x.n)∧w9.cell? ⟨w2.heap.size,3,none⟩=some (.slice A x.l.length cx)∧w9.cell? ⟨w2.heap.size,4,none⟩=some (.int .i64 x.line)∧w9.cell? ⟨w5.heap.size,0,none⟩=some (.int .i64 y1.op)∧w9.cell? ⟨w5.heap.size,1,none⟩=some (.string y1.s)∧w9.cell? ⟨w5.heap.size,2,none⟩=some (.int .i64 y1.n)∧w9.cell? ⟨w5.heap.size,3,none⟩=some (.slice A5 y1.l.length c5)∧w9.cell? ⟨w5.heap.size,4,none⟩=some (.int .i64 y1.line)) ((refine SC.out _ ?_;repeat' (first | with_reducible assumption | with_reducible refine Turn.alloc ?_ _ | with_reducible refine Turn.setCell ?_ (fun _=>Or.inr rfl) _))) (first
    | (go_at_call 27;refine (R.expr _ _ _ HS6.out HM4.out).mono ?_;rintro e w7 ⟨⟨v7,rfl,hok7,d7,sl7,rfl,htr7⟩,hs7,ht7⟩;obtain ⟨A7,c7,rfl⟩:=htr7.form;have ht7':Turn (fun k=>k=rb∨k=w.heap.size) w6.drew w7:=ht7.mono (fun _ _ e=>Or.inl e);have hk7:=hk6.tr ht7 hwr;have hz7:=hk7.lt;have hz8:=(hn6.tr ht7 hw2r.1).lt;have hz9:=(hm6.tr ht7 hw5r.1).lt;obtain ⟨⟨b0,b1,b2,b3,b4⟩,g0,g1,g2,g3,g4⟩:=hk7.five))
   go_wp2
   refine ret_pair ((hk7.set5 _ _ _ _ _).alloc _) rfl rfl rfl rfl ?_
   have hT7:TurnR rb w w7:=TurnR.trans HT6.out ht7
   have hz:=htr7.weaken (B':=w.heap.size+1) (by show w.heap.size+1≤w6.heap.size;omega)
   obtain ⟨q1,q2,q3⟩:=fin_row hlt hs7 hT7 29 (.int .i64 23) (.string ⟨#[]⟩) (.int .i64 0) (.slice (some ⟨w7.heap.size,0,none⟩) 3 3) (.int .i64 x.line) (ps:=[(x,.slice A x.l.length cx),(y1,.slice A5 y1.l.length c5),(z,.slice A7 z.l.length c7)]) (by simp [maxLen]) (by
    intro p hp
    simp only [List.mem_cons,List.not_mem_nil,or_false] at hp
    rcases hp with rfl | rfl | rfl
    ·exact ⟨HOK.out,d,HTR6.out.tr ht7 (by omega)⟩
    ·exact ⟨HOK5.out,d5,HTR7.out.tr ht7 (by omega)⟩
    ·exact ⟨hok7,d7,hz⟩)
   exact PostS.ok rfl ⟨_,rfl,nd_ok (by decide) (by decide),q3 23 x.line ⟨#[]⟩⟩ q1 q2
end
section
open Go.RowKit Go.Sort
set_option maxRecDepth 100000 in
set_option maxHeartbeats 2000000 in
theorem block_step {rb last f:Nat} (R:AllR rb last f) (w:World) (l:List Tl) (y:Except (Int × Int) (Tree × List Tl)) (h:St w rb last l) (hy:blockS last (fns last f) l=some y) :
  Calls Tryz.prog 105 #[rdP rb] w (PostS rb last w (NodeV w.heap.size) y):=by
 have f3:=field_tok3
 have hlt:=h.lt
 have HS0:=Lib.hid (h.alloc (.cells zeroN 29))
 have hk0:=Blk.new w 29 zeroN
 have HT0:=Lib.hid (alloc_turn w rb (.cells zeroN 29))
 have hz0:w.heap.size+1≤(w.alloc (.cells zeroN 29)).heap.size:=by simp
 unfold blockS at hy
 clear h
 go_enter Tryz.func105,Tryz.ntmps105
 go_wp2_with fail
 refine (here_calls _ rb last l HS0.out).mono ?_
 rintro e w2 ⟨rfl,hb⟩
 unfold tokV
 have ht:=turn_below (rb:=rb) hb
 have hs:=HS0.out.below hb
 clear hb
 have HS1:=Lib.hid hs
 have HT1:=Lib.hid (TurnR.trans HT0.out ht)
 have hk1:=hk0.tr ht (by omega)
 have hlhk1:=hk1.lt
 clear ht hs hk0
 have HS2:=Lib.hid (HS1.out.alloc (.cells #[.int .i64 32,.string ⟨#[]⟩,.int .i64 0,.slice none 0 0,.int .i64 (hereF last l).line] 29))
 have HT2:=Lib.hid (TurnR.al HT1.out (.cells #[.int .i64 32,.string ⟨#[]⟩,.int .i64 0,.slice none 0 0,.int .i64 (hereF last l).line] 29))
 have hk2:=hk1.alloc (.cells #[.int .i64 32,.string ⟨#[]⟩,.int .i64 0,.slice none 0 0,.int .i64 (hereF last l).line] 29)
 have hn2:=Blk.new w2 29 #[.int .i64 32,.string ⟨#[]⟩,.int .i64 0,.slice none 0 0,.int .i64 (hereF last l).line]
 clear hk1
 have hz2:w.heap.size+1≤w2.heap.size:=by omega
 rcases bind_some hy with ⟨⟨c,ln⟩,h1,rfl⟩ | ⟨_,r,h1,h2⟩
 ·have HM:=Lib.hid h1
  clear h1 hy
  go_wp2_with fail
  refine (must1 HS2.out ⟨#[123]⟩ _ ?hx1 _ HM.out).mono ?_
  case hx1=>simp
  rintro e w3 ⟨rfl,ht⟩
  exact ⟨rfl,PostS.err rfl (TurnR.trans HT2.out ht)⟩
 have HM:=Lib.hid h1
 clear h1 hy
 go_wp2_with fail
 refine (must1 HS2.out ⟨#[123]⟩ _ ?hx2 _ HM.out).mono ?_
 case hx2=>simp
 rintro e w3 ⟨⟨v3,rfl,-⟩,hs,ht⟩
 have HS3:=Lib.hid hs
 have HT3:=Lib.hid (TurnR.trans HT2.out ht)
 have hk3:=hk2.tr ht (by omega)
 have hn3:=hn2.tr ht (by omega)
 have hlhk3:=hk3.lt
 have hlhn3:=hn3.lt
 clear ht hs hk2 hn2
 rcases bind_some h2 with ⟨⟨c,ln⟩,h1,rfl⟩ | ⟨ps,r2,h1,h3⟩
 ·have HM:=Lib.hid h1
  clear h1 h2
  go_wp2_with fail
  refine (R.stmts _ _ _ HS3.out HM.out).mono ?_
  rintro e w4 ⟨rfl,ht⟩
  exact ⟨rfl,PostS.err rfl (TurnR.trans HT3.out ht)⟩
 have HM:=Lib.hid h1
 clear h1 h2
 go_wp2_with fail
 refine (R.stmts _ _ _ HS3.out HM.out).mono ?_
 rintro e w4 ⟨⟨v4,rfl,hrow,hpl⟩,hs,ht⟩
 obtain ⟨A4,c4,rfl⟩:=hrow.form
 have HR4:=Lib.hid (hrow.far (p:=⟨w2.heap.size,3,none⟩) hlhn3 (.slice A4 ps.length c4))
 clear hrow
 have HS4:=Lib.hid hs
 have HT4:=Lib.hid (TurnR.trans HT3.out ht)
 have hk4:=hk3.tr ht (by omega)
 have hn4:=hn3.tr ht (by omega)
 have hlhk4:=hk4.lt
 have hlhn4:=hn4.lt
 clear ht hs hk3 hn3
 obtain ⟨⟨a0,a1,a2,a3,a4⟩,f0,f1,f2,f3',f4⟩:=hn4.five
 have HS5:=Lib.hid (HS4.out.set' (g:=w2.heap.size) (j:=3) (by omega) (.slice A4 ps.length c4))
 have HT5:=Lib.hid (TurnR.set (p:=⟨w2.heap.size,3,none⟩) HT4.out (by show w.heap.size≤w2.heap.size;omega) (.slice A4 ps.length c4))
 have hk5:=hk4.far (p:=⟨w2.heap.size,3,none⟩) (by show w.heap.size≠w2.heap.size;omega) (.slice A4 ps.length c4)
 have hn5:Blk (w4.setCell ⟨w2.heap.size,3,none⟩ (.slice A4 ps.length c4)) w2.heap.size 29 #[.int .i64 32,.string ⟨#[]⟩,.int .i64 0,.slice A4 ps.length c4,.int .i64 (hereF last l).line]:=by simpa using hn4.set_ 3 (.slice A4 ps.length c4)
 clear hk4 hn4
 rcases bind_some h3 with ⟨⟨c,ln⟩,h1,rfl⟩ | ⟨_,r5,h1,h4⟩
 ·have HM:=Lib.hid h1
  clear h1 h3
  go_wp2_with fail
  refine (must1 HS5.out ⟨#[125]⟩ _ ?hx5 _ HM.out).mono ?_
  case hx5=>simp
  rintro e w6 ⟨rfl,ht⟩
  exact ⟨rfl,PostS.err rfl (TurnR.trans HT5.out ht)⟩
 have HM:=Lib.hid h1
 clear h1 h3
 obtain rfl:=some_ok h4
 clear h4
 go_wp2_with fail
 refine (must1 HS5.out ⟨#[125]⟩ _ ?hnz _ HM.out).mono ?_
 case hnz=>simp
 clear a0 a1 a2 a3 a4 f0 f1 f2 f3' f4
 rintro e w6 ⟨⟨v6,rfl,-⟩,hs,ht⟩
 have HR6:=Lib.hid (HR4.out.tr ht (by omega))
 have HS6:=Lib.hid hs
 have HT6:=Lib.hid (TurnR.trans HT5.out ht)
 have hk6:=hk5.tr ht (by omega)
 have hn6:=hn5.tr ht (by omega)
 have hlhk6:=hk6.lt
 have hlhn6:=hn6.lt
 clear ht hs hk5 hn5
 obtain ⟨⟨b0,b1,b2,b3,b4⟩,g0,g1,g2,g3,g4⟩:=hk6.five
 obtain ⟨⟨a0,a1,a2,a3,a4⟩,-⟩:=hn6.five
 have HK6:=Lib.hid hk6
 clear hk6 hn6
 go_wp2
 refine ret_node (HK6.out.set5 _ _ _ _ _) rfl rfl rfl ?_
 obtain ⟨q1,q2,d7,q3⟩:=fin_rowt hlt HS6.out HT6.out (HR6.out.weaken (B':=w.heap.size+1) (by omega)) (by omega) (.int .i64 32) (.string ⟨#[]⟩) (.int .i64 0) (.slice A4 ps.length c4) (.int .i64 (hereF last l).line)
 exact PostS.ok rfl ⟨nd_ok (by decide) (by decide),d7,_,rfl,q3⟩ q1 q2
end
section
open Go.RowKit Go.Sort
set_option maxRecDepth 100000 in
set_option maxHeartbeats 2000000 in
theorem within_step {rb last f:Nat} (R:AllR rb last f) (w:World) (l:List Tl) (y:Except (Int × Int) (Tree × List Tl)) (h:St w rb last l) (hy:withinS last (fns last f) l=some y) :
  Calls Tryz.prog 160 #[rdP rb] w (PostS rb last w (NodeV w.heap.size) y):=by
 have f3:=field_tok3
 have hlt:=h.lt
 have HS0:=Lib.hid (h.alloc (.cells zeroN 29))
 have hk0:=Blk.new w 29 zeroN
 have HT0:=Lib.hid (alloc_turn w rb (.cells zeroN 29))
 have hz0:w.heap.size+1≤(w.alloc (.cells zeroN 29)).heap.size:=by simp
 unfold withinS at hy
 clear h
 go_enter Tryz.func160,Tryz.ntmps160
 go_wp2_with fail
 refine (here_calls _ rb last _ HS0.out).mono ?_
 rintro e w2 ⟨rfl,hb⟩
 unfold tokV
 have ht:=turn_below (rb:=rb) hb
 have hs:=HS0.out.below hb
 clear hb
 have HS1:=Lib.hid hs
 have HT1:=Lib.hid (TurnR.trans HT0.out ht)
 have hk1:=hk0.tr ht (by omega)
 have hlhk1:=hk1.lt
 clear ht hs hk0
 have HS2:=Lib.hid (HS1.out.alloc (.cells #[.int .i64 32,.string ⟨#[]⟩,.int .i64 0,.slice none 0 0,.int .i64 (hereF last l).line] 29))
 have HT2:=Lib.hid (TurnR.al HT1.out (.cells #[.int .i64 32,.string ⟨#[]⟩,.int .i64 0,.slice none 0 0,.int .i64 (hereF last l).line] 29))
 have hk2:=hk1.alloc (.cells #[.int .i64 32,.string ⟨#[]⟩,.int .i64 0,.slice none 0 0,.int .i64 (hereF last l).line] 29)
 have hn2:=Blk.new w2 29 #[.int .i64 32,.string ⟨#[]⟩,.int .i64 0,.slice none 0 0,.int .i64 (hereF last l).line]
 clear hk1
 have hlhn2:=hn2.lt
 have hz2:w.heap.size+1≤w2.heap.size:=by omega
 cases ha:atF [[123]] l with
 | true =>
  rw [ha,if_pos rfl] at hy
  go_wp2_with fail
  refine (isAt1 HS2.out ⟨#[123]⟩ _ ?hx1 _ ha).mono ?_
  case hx1=>simp
  rintro e w3 ⟨rfl,hb⟩
  have ht:=turn_below (rb:=rb) hb
  have hs:=HS2.out.below hb
  clear hb
  have HS3:=Lib.hid hs
  have HT3:=Lib.hid (TurnR.trans HT2.out ht)
  have hk3:=hk2.tr ht (by omega)
  have hn3:=hn2.tr ht (by omega)
  have hlhk3:=hk3.lt
  have hlhn3:=hn3.lt
  clear ht hs hk2 hn2
  match y,hy with
  | .error (c,ln),hy =>
   have HM:=Lib.hid hy
   clear hy
   go_wp2_with fail
   refine (R.block _ _ _ HS3.out HM.out).mono ?_
   rintro e w4 ⟨rfl,ht⟩
   exact ⟨rfl,PostS.err rfl (TurnR.trans HT3.out ht)⟩
  | .ok (x,r),hy =>
   have HM:=Lib.hid hy
   clear hy
   go_wp2_with fail
   refine (R.block _ _ _ HS3.out HM.out).mono ?_
   rintro e w4 ⟨⟨_,rfl,hok,d,sl,rfl,htr⟩,hs,ht⟩
   obtain ⟨A,cx,rfl⟩:=htr.form
   have HOK:=Lib.hid hok
   have HTX:=Lib.hid (htr.weaken (B':=w.heap.size+1) (by omega))
   clear hok htr
   have HS4:=Lib.hid hs
   have HT4:=Lib.hid (TurnR.trans HT3.out ht)
   have hk4:=hk3.tr ht (by omega)
   have hn4:=hn3.tr ht (by omega)
   have hlhk4:=hk4.lt
   have hlhn4:=hn4.lt
   clear ht hs hk3 hn3
   obtain ⟨⟨b0,b1,b2,b3,b4⟩,g0,g1,g2,g3,g4⟩:=hk4.five
   have HK:=Lib.hid hk4
   clear hk4 hn4
   go_wp2
   refine ret_node (HK.out.set5 _ _ _ _ _) rfl rfl rfl ?_
   obtain ⟨q1,q2,q3⟩:=fin_old hlt HS4.out HT4.out HOK.out HTX.out
   exact PostS.ok rfl q3 q1 q2
 | false =>
  rw [ha,if_neg (by decide)] at hy
  go_wp2_with fail
  refine (isAt1 HS2.out ⟨#[123]⟩ _ ?hx2 _ ha).mono ?_
  case hx2=>simp
  rintro e w3 ⟨rfl,hb⟩
  have ht:=turn_below (rb:=rb) hb
  have hs:=HS2.out.below hb
  clear hb
  have HS3:=Lib.hid hs
  have HT3:=Lib.hid (TurnR.trans HT2.out ht)
  have hk3:=hk2.tr ht (by omega)
  have hn3:=hn2.tr ht (by omega)
  have hlhk3:=hk3.lt
  have hlhn3:=hn3.lt
  clear ht hs hk2 hn2
  cases hb:atF [[59]] l with
  | true =>
   rw [hb,if_pos rfl] at hy
   obtain rfl:=some_ok hy
   clear hy
   go_wp2_with fail
   refine (takes1 HS3.out ⟨#[59]⟩ _ ?hx3 _ hb).mono ?_
   case hx3=>simp
   rintro e w4 ⟨rfl,hs,ht⟩
   have hs:St w4 rb last l.tail:=by simpa using hs
   have HS4:=Lib.hid hs
   have HT4:=Lib.hid (TurnR.trans HT3.out ht)
   have hk4:=hk3.tr ht (by omega)
   have hn4:=hn3.tr ht (by omega)
   have hlhk4:=hk4.lt
   have hlhn4:=hn4.lt
   clear ht hs hk3 hn3
   obtain ⟨⟨b0,b1,b2,b3,b4⟩,g0,g1,g2,g3,g4⟩:=hk4.five
   obtain ⟨⟨a0,a1,a2,a3,a4⟩,-⟩:=hn4.five
   have HK:=Lib.hid hk4
   clear hk4 hn4
   go_wp2
   refine ret_node (HK.out.set5 _ _ _ _ _) rfl rfl rfl ?_
   obtain ⟨q1,q2,d7,q3⟩:=fin_rowt hlt HS4.out HT4.out (RowT.nil (B:=w.heap.size+1)) (by decide) (.int .i64 32) (.string ⟨#[]⟩) (.int .i64 0) (.slice none 0 0) (.int .i64 (hereF last l).line)
   exact PostS.ok rfl ⟨nd_ok (by decide) (by decide),d7,_,rfl,q3⟩ q1 q2
  | false =>
   rw [hb,if_neg (by decide)] at hy
   go_wp2_with fail
   refine (takes1 HS3.out ⟨#[59]⟩ _ ?hx4 _ hb).mono ?_
   case hx4=>simp
   rintro e w4 ⟨rfl,hs,ht⟩
   have hs:St w4 rb last l:=by simpa using hs
   have HS4:=Lib.hid hs
   have HT4:=Lib.hid (TurnR.trans HT3.out ht)
   have hk4:=hk3.tr ht (by omega)
   have hn4:=hn3.tr ht (by omega)
   have hlhk4:=hk4.lt
   have hlhn4:=hn4.lt
   clear ht hs hk3 hn3
   rcases bind_some hy with ⟨⟨c,ln⟩,h1,rfl⟩ | ⟨x,r,h1,h2⟩
   ·have HM:=Lib.hid h1
    clear h1 hy
    go_wp2_with fail
    refine (R.stmt _ _ _ HS4.out HM.out).mono ?_
    rintro e w5 ⟨rfl,ht⟩
    exact ⟨rfl,PostS.err rfl (TurnR.trans HT4.out ht)⟩
   have HM:=Lib.hid h1
   clear h1 hy
   go_wp2_with fail
   refine (R.stmt _ _ _ HS4.out HM.out).mono ?_
   rintro e w5 ⟨⟨v5,rfl,hok,d,sl,rfl,htr⟩,hs,ht⟩
   obtain rfl:=some_ok h2
   clear h2
   obtain ⟨A,cx,rfl⟩:=htr.form
   have HOK:=Lib.hid hok
   clear hok
   have HS5:=Lib.hid hs
   have HT5:=Lib.hid (TurnR.trans HT4.out ht)
   have hk5:=hk4.tr ht (by omega)
   have hn5:=hn4.tr ht (by omega)
   have hlhk5:=hk5.lt
   have hlhn5:=hn5.lt
   clear ht hs hk4 hn4
   have hrow:=RowT.one (B:=w2.heap.size+1) (lo:=w4.heap.size) (w5:=(w5.setCell ⟨w2.heap.size,3,none⟩ (.slice (some ⟨w5.heap.size,0,none⟩) 1 1))) (by rw [World.size_setCell];omega) (by omega) HOK.out (htr.far (p:=⟨w2.heap.size,3,none⟩) hlhn4 _)
   rw [World.size_setCell] at hrow
   clear htr
   obtain ⟨⟨a0,a1,a2,a3,a4⟩,f0,f1,f2,f3',f4⟩:=hn5.five
   have hn6:Blk (w5.setCell ⟨w2.heap.size,3,none⟩ (.slice (some ⟨w5.heap.size,0,none⟩) 1 1)) w2.heap.size 29 #[.int .i64 32,.string ⟨#[]⟩,.int .i64 0,(.slice (some ⟨w5.heap.size,0,none⟩) 1 1),.int .i64 (hereF last l).line]:=by simpa using hn5.set_ 3 (.slice (some ⟨w5.heap.size,0,none⟩) 1 1)
   have hk6:=hk5.far (p:=⟨w2.heap.size,3,none⟩) (by show w.heap.size≠w2.heap.size;omega) (.slice (some ⟨w5.heap.size,0,none⟩) 1 1)
   have hs6:=HS5.out.set' (g:=w2.heap.size) (j:=3) (by omega) (.slice (some ⟨w5.heap.size,0,none⟩) 1 1)
   have ht6:=TurnR.set (p:=⟨w2.heap.size,3,none⟩) HT5.out (by show w.heap.size≤w2.heap.size;omega) (.slice (some ⟨w5.heap.size,0,none⟩) 1 1)
   have hk7:=hk6.alloc (.cells #[.int .i64 x.op,.string x.s,.int .i64 x.n,.slice A x.l.length cx,.int .i64 x.line] 29)
   have hn7:=hn6.alloc (.cells #[.int .i64 x.op,.string x.s,.int .i64 x.n,.slice A x.l.length cx,.int .i64 x.line] 29)
   have hs7:=hs6.alloc (.cells #[.int .i64 x.op,.string x.s,.int .i64 x.n,.slice A x.l.length cx,.int .i64 x.line] 29)
   have ht7:=TurnR.al ht6 (.cells #[.int .i64 x.op,.string x.s,.int .i64 x.n,.slice A x.l.length cx,.int .i64 x.line] 29)
   have HH:=Lib.hid (And.intro hrow (And.intro hk7 (And.intro hn7 (And.intro hs7 ht7))))
   clear hrow hk7 hn7 hs7 ht7 hk6 hn6 hs6 ht6 hk5 hn5
   iterate 12 (first | go_values | go_skip | go_guarded | go_step | go_upon | go_in | go_back | go_simp)
   clear a0 a1 a2 a3 a4 f0 f1 f2 f3' f4
   have HH:=HH.out
   generalize ((w5.setCell ⟨w2.heap.size,3,none⟩ (.slice (some ⟨w5.heap.size,0,none⟩) 1 1))).alloc (.cells #[.int .i64 x.op,.string x.s,.int .i64 x.n,.slice A x.l.length cx,.int .i64 x.line] 29)=w6 at HH ⊢
   obtain ⟨hrow,hk7,hn7,hs7,ht7⟩:=HH
   have HR:=Lib.hid hrow
   have HS7:=Lib.hid hs7
   have HT7:=Lib.hid ht7
   have HK:=Lib.hid hk7
   obtain ⟨⟨a0,a1,a2,a3,a4⟩,-⟩:=hn7.five
   obtain ⟨⟨b0,b1,b2,b3,b4⟩,g0,g1,g2,g3,g4⟩:=hk7.five
   clear hrow hk7 hn7 hs7 ht7
   go_wp2
   refine ret_node (HK.out.set5 _ _ _ _ _) rfl rfl rfl ?_
   obtain ⟨q1,q2,d7,q3⟩:=fin_rowt hlt HS7.out HT7.out (HR.out.weaken (B':=w.heap.size+1) (by omega)) (by simp) (.int .i64 32) (.string ⟨#[]⟩) (.int .i64 0) (.slice (some ⟨w5.heap.size,0,none⟩) 1 1) (.int .i64 (hereF last l).line)
   exact PostS.ok rfl ⟨nd_ok (by decide) (by decide),d7,_,rfl,q3⟩ q1 q2
end
section
open Go.RowKit Go.Sort
set_option maxRecDepth 100000 in
set_option maxHeartbeats 2000000 in
theorem stmts_step {rb last f:Nat} (R:AllR rb last f) (w:World) (l:List Tl) (y:Except (Int × Int) (List Tree × List Tl)) (h:St w rb last l) (hy:stmtsS last (fns last f) [] l=some y) :
  Calls Tryz.prog 35 #[rdP rb] w (PostS rb last w (RowV w.heap.size) y):=by
 have hlt:=h.lt
 have hlen:=h.len
 have HS0:=Lib.hid h
 have f0:=field_tok0
 clear h
 go_enter Tryz.func35,Tryz.ntmps35
 go_wp2
 go_step3
 go_wp2
 go_step3
 go_wp2
 go_loopg [3] (f+1) (fun n v wr => ∃ (acc:List Tree) (l2:List Tl) (A:Option Addr) (c:Nat),n≤f+1∧v = .slice A acc.length c∧St wr rb last l2∧TurnR rb w wr∧RowT w.heap.size wr acc (.slice A acc.length c)∧acc.length+l2.length≤100000∧(fns last n).stmts acc l2=some y)
 case atStart=>exact ⟨[],l,none,0,Nat.le_refl _,rfl,HS0.out,Turn.refl _ _,RowT.nil,by simpa using hlen,hy⟩
 case round =>
  obtain ⟨acc,l2,A,c,hn,rfl,hst,htn,hrow,hsum,hy2⟩:=hrel
  clear hy
  cases gk with
  | zero=>cases hy2
  | succ n =>
   have hy:stmtsS last (fns last n) acc l2=some y:=hy2
   clear hy2
   unfold stmtsS at hy
   have LF:=Lib.hid (leFns_le last (show n≤f by omega))
   have HS1:=Lib.hid hst
   have HT1:=Lib.hid htn
   have HR1:=Lib.hid hrow
   have HSUM:=Lib.hid hsum
   have HN:=Lib.hid hn
   have hz1:w.heap.size≤wr.heap.size:=htn.size
   clear hst htn hrow hsum hn
   go_wp2_with fail
   refine (here_calls _ rb last _ HS1.out).mono ?_
   rintro e w2 ⟨rfl,hb⟩
   unfold tokV
   have ht:=turn_below (rb:=rb) hb
   have hs:=HS1.out.below hb
   clear hb
   have HS2:=Lib.hid hs
   have HT2:=Lib.hid (TurnR.trans HT1.out ht)
   have HR2:=Lib.hid (HR1.out.tr ht (by omega))
   clear ht hs
   cases hk:((hereF last l2).t.kind==0) with
   | true =>
    have hk2:(hereF last l2).t.kind=0:=by simpa using hk
    rw [if_pos hk2] at hy
    have HSUMa:=HSUM.out
    obtain rfl:=some_ok hy
    clear hy
    go_wp2
    try rw [Exit.noGoto_ret]
    go_ret
    exact PostS.ok rfl ⟨HR2.out,by omega⟩ HS2.out HT2.out
   | false =>
    have hk2:¬ (hereF last l2).t.kind=0:=by simpa using hk
    rw [if_neg hk2] at hy
    cases ha:atF [[125]] l2 with
    | true =>
     rw [ha,if_pos rfl] at hy
     go_wp2_with fail
     refine (isAt1 HS2.out ⟨#[125]⟩ _ ?hx1 _ ha).mono ?_
     case hx1=>simp
     rintro e w3 ⟨rfl,hb⟩
     have ht:=turn_below (rb:=rb) hb
     have hs:=HS2.out.below hb
     clear hb
     have HS3:=Lib.hid hs
     have HT3:=Lib.hid (TurnR.trans HT2.out ht)
     have HR3:=Lib.hid (HR2.out.tr ht (by omega))
     clear ht hs
     have HSUMa:=HSUM.out
     obtain rfl:=some_ok hy
     clear hy
     go_wp2
     try rw [Exit.noGoto_ret]
     go_ret
     exact PostS.ok rfl ⟨HR3.out,by omega⟩ HS3.out HT3.out
    | false =>
     rw [ha,if_neg (by decide)] at hy
     go_wp2_with fail
     refine (isAt1 HS2.out ⟨#[125]⟩ _ ?hx2 _ ha).mono ?_
     case hx2=>simp
     rintro e w3 ⟨rfl,hb⟩
     have ht:=turn_below (rb:=rb) hb
     have hs:=HS2.out.below hb
     clear hb
     have HS3:=Lib.hid hs
     have HT3:=Lib.hid (TurnR.trans HT2.out ht)
     have HR3:=Lib.hid (HR2.out.tr ht (by omega))
     clear ht hs
     cases hb:atF [[59]] l2 with
     | true =>
      rw [hb,if_pos rfl] at hy
      have hlt2:=at_len hb
      go_wp2_with fail
      refine (takes1 HS3.out ⟨#[59]⟩ _ ?hx3 _ hb).mono ?_
      case hx3=>simp
      rintro e w4 ⟨rfl,hs,ht⟩
      have hs:St w4 rb last l2.tail:=by simpa using hs
      have HS4:=Lib.hid hs
      have HT4:=Lib.hid (TurnR.trans HT3.out ht)
      have HR4:=Lib.hid (HR3.out.tr ht (by omega))
      clear ht hs
      have HY:=Lib.hid hy
      clear hy
      go_wp2
      go_roundg n
      case measure=>omega
      case rel =>
       have:=HSUM.out
       have:=HN.out
       exact ⟨acc,l2.tail,A,c,by omega,rfl,HS4.out,HT4.out,HR4.out,by omega,HY.out⟩
     | false =>
      rw [hb,if_neg (by decide)] at hy
      go_wp2_with fail
      refine (takes1 HS3.out ⟨#[59]⟩ _ ?hx4 _ hb).mono ?_
      case hx4=>simp
      rintro e w4 ⟨rfl,hs,ht⟩
      have hs:St w4 rb last l2:=by simpa using hs
      have HS4:=Lib.hid hs
      have HT4:=Lib.hid (TurnR.trans HT3.out ht)
      have HR4:=Lib.hid (HR3.out.tr ht (by omega))
      clear ht hs
      have hown:=HR4.out.own
      rcases bind_some hy with ⟨⟨c,ln⟩,h1,rfl⟩ | ⟨x,r,h1,h2⟩
      ·have HM:=Lib.hid h1
       clear h1 hy
       go_wp2_with fail
       refine (R.stmt _ _ _ HS4.out (LF.out.stmt _ _ HM.out)).mono ?_
       rintro e w5 ⟨rfl,ht⟩
       exact ⟨rfl,PostS.err rfl (TurnR.trans HT4.out ht)⟩
      have HM:=Lib.hid h1
      clear h1 hy
      go_wp2_with fail
      refine (R.stmt _ _ _ HS4.out (LF.out.stmt _ _ HM.out)).mono ?_
      rintro e w5 ⟨⟨v5,rfl,hok,d,sl,rfl,htr⟩,hs,ht⟩
      obtain ⟨Ax,cx,rfl⟩:=htr.form
      have HOK:=Lib.hid hok
      have HTX:=Lib.hid htr
      have HOWN:=Lib.hid hown
      clear hok htr hown
      have HS5:=Lib.hid hs
      have HT5:=Lib.hid (TurnR.trans HT4.out ht)
      have HR5:=Lib.hid (HR4.out.tr ht (by omega))
      clear ht hs
      have HS6:=Lib.hid (HS5.out.alloc (.cells #[.int .i64 x.op,.string x.s,.int .i64 x.n,.slice Ax x.l.length cx,.int .i64 x.line] 29))
      have HT6:=Lib.hid (TurnR.al HT5.out (.cells #[.int .i64 x.op,.string x.s,.int .i64 x.n,.slice Ax x.l.length cx,.int .i64 x.line] 29))
      have HR6:=Lib.hid (HR5.out.al (.cells #[.int .i64 x.op,.string x.s,.int .i64 x.n,.slice Ax x.l.length cx,.int .i64 x.line] 29))
      have HB:=Lib.hid (Blk.new w5 29 #[.int .i64 x.op,.string x.s,.int .i64 x.n,.slice Ax x.l.length cx,.int .i64 x.line])
      have HTX6:=Lib.hid (HTX.out.al (.cells #[.int .i64 x.op,.string x.s,.int .i64 x.n,.slice Ax x.l.length cx,.int .i64 x.line] 29))
      have HY:=Lib.hid h2
      have HLEN:=Lib.hid (((okFns last n).stmt l2).1 _ _ HM.out)
      have HSUMa:=HSUM.out
      clear h2
      go_wp2_with (at_builtin;refine wpList_append_row (v := .slice A acc.length c) (acc:=acc) (B:=w.heap.size) (W:=w5.alloc (.cells #[.int .i64 x.op,.string x.s,.int .i64 x.n,.slice Ax x.l.length cx,.int .i64 x.line] 29)) rfl _ _ rfl rfl HR6.out [(x,.slice Ax x.l.length cx)] ⟨w5.heap.size,0,none⟩ 1 1 rfl rfl (World.news_of_block HB.out) (by intro p hp;simp only [List.mem_singleton] at hp;subst hp;exact ⟨HOK.out,d,TrP.weaken (fun k _ (hk:w4.heap.size≤k)=>⟨by have:=HT4.out.size;omega,fun e=>by have:=HOWN.out k e;omega⟩) HTX6.out⟩) (by simp) (by simp;omega) (by have:=HT6.out.size;simp at this ⊢;omega) ?_)
      intro g cap w7 hrow7 hgrow7 hat7 hlt7
      have hs7:=HS6.out.grown hgrow7 (fun k e=>by have:=(HOWN.out k e).1;omega)
      have ht7:=TurnR.grown HT6.out hgrow7 (fun k e=>(HOWN.out k e).1)
      have HR7:=Lib.hid hrow7
      have HS7:=Lib.hid hs7
      have HT7:=Lib.hid ht7
      clear hrow7 hgrow7 hat7 hs7 ht7
      go_wp2
      go_roundg n
      case measure=>omega
      case rel =>
       have:=HSUM.out
       have:=HN.out
       have:=HLEN.out.2
       exact ⟨acc++[x],r,some ⟨g,0,none⟩,cap,by omega,by simp,HS7.out,HT7.out,by simpa using HR7.out,by simp;omega,HY.out⟩
end
end Go.Proofs.YtjjdmiaonkailaaGreatDoor
