/- Walks and plain laws, packed: RdK. -/
import Derived.Test.YtjjdmiaonkailaaGreatDoorK20
import Derived.Test.YtjjdmiaonkailaaGreatDoorK03
import Derived.Deep.RegionHeld3
import Derived.Deep.RegionWith
import Derived.Deep.AppendLies
import Derived.Deep.LoopGhost
import Derived.WalkMore
import Derived.Deep.RegionLaw
namespace Go.Proofs.YtjjdmiaonkailaaGreatDoor
section
open Go.RowKit Go.Sort
theorem mem_fin {rb last B g cap e:Nat} {w w8:World} {l:List Tl} {acc:List Tree} {T:TypeId} {u0 u1 u2 u3 u4:Value} (hrB:rb<B) (hBw:B≤w.heap.size) (hge:g≠e) (hlen:acc.length≤1000000)
  (hrow:RowP (fun k=>(B≤k∧k≠w.heap.size∧k≠w.heap.size+1)∧k≠e) (w.heap.size+2) w8 acc (.slice (some ⟨g,0,none⟩) acc.length cap)) (hs:St w8 rb last l) (ht:TurnR rb w w8)
  (hx:Blk w8 w.heap.size T #[u0,u1,u2,u3,u4]) (hr:Blk w8 (w.heap.size+1) 29 zeroN) (v0 v1 v2 v3 v4:Value) :
  ∃ d,TrP (fun k=>B≤k∧k≠w.heap.size∧k≠w.heap.size+1) (sets5 w8 w.heap.size v0 v1 v2 v3 v4) d acc (.slice (some ⟨g,0,none⟩) acc.length cap)∧St (sets5 w8 w.heap.size v0 v1 v2 v3 v4) rb last l∧TurnR rb w (sets5 w8 w.heap.size v0 v1 v2 v3 v4) ∧
   Blk (sets5 w8 w.heap.size v0 v1 v2 v3 v4) w.heap.size T #[v0,v1,v2,v3,v4]∧Blk (sets5 w8 w.heap.size v0 v1 v2 v3 v4) (w.heap.size+1) 29 zeroN:=by
 have hg:=hrow.own g rfl
 obtain ⟨d,hd⟩:=hrow.trees (fun k hk=>by
  obtain rfl:g=k:=by simpa [Value.ownBlock] using hk
  exact ⟨⟨by omega,by omega,by omega⟩,hge⟩) (by simp only [maxLen];omega)
 have h0:¬ (fun k=>(B≤k∧k≠w.heap.size∧k≠w.heap.size+1)∧k≠e) w.heap.size:=fun h=>h.1.2.1 rfl
 have hd:=((((hd.far (p:=⟨w.heap.size,0,none⟩) h0 v0).far (p:=⟨w.heap.size,1,none⟩) h0 v1).far (p:=⟨w.heap.size,2,none⟩) h0 v2).far (p:=⟨w.heap.size,3,none⟩) h0 v3).far (p:=⟨w.heap.size,4,none⟩) h0 v4
 have h1:w.heap.size+1≠w.heap.size:=by omega
 exact ⟨d,hd.weaken fun k _ hk=>hk.1,hs.set5 (by omega) _ _ _ _ _,Turn.set5 ht (Nat.le_refl _) _ _ _ _ _,hx.set5 _ _ _ _ _,
  ((((hr.far (p:=⟨w.heap.size,0,none⟩) h1 v0).far (p:=⟨w.heap.size,1,none⟩) h1 v1).far (p:=⟨w.heap.size,2,none⟩) h1 v2).far (p:=⟨w.heap.size,3,none⟩) h1 v3).far (p:=⟨w.heap.size,4,none⟩) h1 v4⟩
theorem RowT.news {B:Nat} {W:World} {ys:List Tree} {v:Value} (h:RowT B W ys v) (hne:ys≠[]) : ∃ (l2:List (Tree × Value)) (g2 c2:Nat),l2.map Prod.fst=ys∧ys.length=l2.length∧v = .slice (some ⟨g2,0,none⟩) ys.length c2∧(∀ j u,(flatN l2)[j]? = some u→W.cell? ((⟨g2,0,none⟩:Addr).add j)=some u) ∧
  ∀ p,p ∈ l2→p.1.ok ∧ ∃ d,TrU B W d p.1.l p.2:=by
 obtain ⟨l2,rfl,hown,hp⟩:=h
 obtain ⟨g,cap,hv,hg,hc⟩:=World.ownsRow.form hown (by cases l2 with
  | nil=>exact absurd rfl hne
  | cons a l=>simp)
 subst hv
 refine ⟨l2,g,cap,rfl,by simp,by simp,fun j u hu => ?_,fun p hm => ?_⟩
 ·have hj:j<(flatN l2).length:=(List.getElem?_eq_some_iff.1 hu).1
  rw [flatN_len] at hj
  rw [add0,Nat.zero_add,World.ownsRow.cellAt hown j (by omega),hu]
 ·obtain ⟨h1,d,h2⟩:=hp p hm
  exact ⟨h1,d,h2.weaken fun k _ hk=>hk.1⟩
def ArgsV (B:Nat):World→List Tree→Value→Prop:=fun W ts v=>RowT B W ts v∧ts.length≤200000∧(ts=[]→v = .slice none 0 0)
def ArgsC (rb last f:Nat):Prop := ∀ w l y,St w rb last l→argsF (fns last f) l=some y→Calls Tryz.prog 172 #[rdP rb] w (PostS rb last w (ArgsV w.heap.size) y)
theorem le_argsF {F G:Fns} (h:LeF F G) (l:List Tl):Le (argsF F l) (argsF G l):=by
 unfold argsF
 split
 ·exact Le.refl _
 ·exact h.args _ _
set_option maxRecDepth 100000 in
set_option maxHeartbeats 2000000 in
theorem members_step {rb last f:Nat} (R:AllR rb last f) (HA:ArgsC rb last f) (b:Bool) (B:Nat) (x0:Tree) (xv:Value) (w:World) (l:List Tl) (y:Except (Int × Int) (Tree × List Tl)) (hrB:rb<B) (hBw:B≤w.heap.size) (hx0:TV B w x0 xv) (h:St w rb last l) (hy:membersS last (fns last f) b x0 l=some y) :
  Calls Tryz.prog 170 #[rdP rb,xv,.bool b] w (PostS rb last w (NodeV B) y):=by
 have hlt:=h.lt
 obtain ⟨hok0,d0,sl0,rfl,htr0⟩:=hx0
 obtain ⟨A0,c0,rfl⟩:=htr0.form
 have hs0:=(h.alloc (.cells #[.int .i64 x0.op,.string x0.s,.int .i64 x0.n,.slice A0 x0.l.length c0,.int .i64 x0.line] 29)).alloc (.cells zeroN 29)
 have ht0:=TurnR.al (alloc_turn w rb (.cells #[.int .i64 x0.op,.string x0.s,.int .i64 x0.n,.slice A0 x0.l.length c0,.int .i64 x0.line] 29)) (.cells zeroN 29)
 have hx0:=(Blk.new w 29 #[.int .i64 x0.op,.string x0.s,.int .i64 x0.n,.slice A0 x0.l.length c0,.int .i64 x0.line]).alloc (.cells zeroN 29)
 have hr0:Blk ((w.alloc (.cells #[.int .i64 x0.op,.string x0.s,.int .i64 x0.n,.slice A0 x0.l.length c0,.int .i64 x0.line] 29)).alloc (.cells zeroN 29)) (w.heap.size+1) 29 zeroN:=by have:=Blk.new (w.alloc (.cells #[.int .i64 x0.op,.string x0.s,.int .i64 x0.n,.slice A0 x0.l.length c0,.int .i64 x0.line] 29)) 29 zeroN;rw [World.size_alloc] at this;exact this
 have htr0:TrP (fun k=>B≤k∧k≠w.heap.size∧k≠w.heap.size+1) ((w.alloc (.cells #[.int .i64 x0.op,.string x0.s,.int .i64 x0.n,.slice A0 x0.l.length c0,.int .i64 x0.line] 29)).alloc (.cells zeroN 29)) d0 x0.l (.slice A0 x0.l.length c0):=((htr0.lt.weaken (fun k _ hk=>⟨hk.1,by have:=hk.2;omega,by have:=hk.2;omega⟩)).al _).al _
 have H0:=Lib.hid (And.intro hok0 (And.intro htr0 (And.intro hs0 (And.intro ht0 (And.intro hx0 hr0)))))
 clear hok0 htr0 hs0 ht0 hx0 hr0 h
 have f0:=field_tok0
 have f1:=field_tok1
 go_enter Tryz.func170,Tryz.ntmps170
 go_wp2
 go_loopg [] (f+1) (fun n wr => ∃ (x:Tree) (A:Option Addr) (c d:Nat) (l2:List Tl),n≤f+1∧x.ok∧TrP (fun k=>B≤k∧k≠w.heap.size∧k≠w.heap.size+1) wr d x.l (.slice A x.l.length c)∧St wr rb last l2∧TurnR rb w wr∧Blk wr w.heap.size 29 #[.int .i64 x.op,.string x.s,.int .i64 x.n,.slice A x.l.length c,.int .i64 x.line]∧Blk wr (w.heap.size+1) 29 zeroN∧(fns last n).members b x l2=some y)
 case atStart=>exact ⟨x0,A0,c0,d0,l,Nat.le_refl _,H0.out.1,H0.out.2.1,H0.out.2.2.1,H0.out.2.2.2.1,H0.out.2.2.2.2.1,H0.out.2.2.2.2.2,hy⟩
 case round =>
  obtain ⟨x,A,cx,d,l2,hn,hok,htr,hst,htn,hxb,hrb,hy2⟩:=hrel
  clear hy H0
  cases gk with
  | zero=>cases hy2
  | succ n =>
   have hy:membersS last (fns last n) b x l2=some y:=hy2
   clear hy2
   unfold membersS at hy
   have LF:=Lib.hid (leFns_le last (show n≤f by omega))
   have HS1:=Lib.hid hst
   have HT1:=Lib.hid htn
   have HOK:=Lib.hid hok
   have HN:=Lib.hid hn
   have hz1:w.heap.size+1<wr.heap.size:=hrb.lt
   have hx1:=hxb
   have hr1:=hrb
   have hp1:RowP (fun k=>(B≤k∧k≠w.heap.size∧k≠w.heap.size+1)∧k≠wr.heap.size+1) (w.heap.size+2) (wr.alloc (.cells #[.int .i64 x.op,.string x.s,.int .i64 x.n,.slice A x.l.length cx,.int .i64 x.line] 29)) [x] (.slice (some ⟨wr.heap.size,0,none⟩) 1 1):=RowP.one (by omega) hok (htr.lt.weaken fun k _ hk=>⟨hk.1,by omega⟩)
   have HX:=Lib.hid htr
   obtain ⟨⟨a0,a1,a2,a3,a4⟩,-⟩:=hx1.five
   obtain ⟨⟨b0,b1,b2,b3,b4⟩,g0,g1,g2,g3,g4⟩:=hr1.five
   clear hst htn hn hok htr hxb hrb
   have HX1:=HX
   clear HX
   have HS2:=Lib.hid (HS1.out.alloc (.cells #[.int .i64 x.op,.string x.s,.int .i64 x.n,.slice A x.l.length cx,.int .i64 x.line] 29))
   have HT2:=Lib.hid (TurnR.al HT1.out (.cells #[.int .i64 x.op,.string x.s,.int .i64 x.n,.slice A x.l.length cx,.int .i64 x.line] 29))
   have hx2:=hx1.alloc (.cells #[.int .i64 x.op,.string x.s,.int .i64 x.n,.slice A x.l.length cx,.int .i64 x.line] 29)
   have hr2:=hr1.alloc (.cells #[.int .i64 x.op,.string x.s,.int .i64 x.n,.slice A x.l.length cx,.int .i64 x.line] 29)
   have HX2:=Lib.hid (HX1.out.al (.cells #[.int .i64 x.op,.string x.s,.int .i64 x.n,.slice A x.l.length cx,.int .i64 x.line] 29))
   clear hx1 hr1
   have HP2:=Lib.hid hp1
   clear hp1
   have HS3:=Lib.hid (HS2.out.alloc (.cells #[.int .i64 0,.string ⟨#[]⟩,.int .i64 0,.slice (some ⟨wr.heap.size,0,none⟩) 1 1,.int .i64 x.line] 29))
   have HT3:=Lib.hid (TurnR.al HT2.out (.cells #[.int .i64 0,.string ⟨#[]⟩,.int .i64 0,.slice (some ⟨wr.heap.size,0,none⟩) 1 1,.int .i64 x.line] 29))
   have hx3:=hx2.alloc (.cells #[.int .i64 0,.string ⟨#[]⟩,.int .i64 0,.slice (some ⟨wr.heap.size,0,none⟩) 1 1,.int .i64 x.line] 29)
   have hr3:=hr2.alloc (.cells #[.int .i64 0,.string ⟨#[]⟩,.int .i64 0,.slice (some ⟨wr.heap.size,0,none⟩) 1 1,.int .i64 x.line] 29)
   have HX3:=Lib.hid (HX2.out.al (.cells #[.int .i64 0,.string ⟨#[]⟩,.int .i64 0,.slice (some ⟨wr.heap.size,0,none⟩) 1 1,.int .i64 x.line] 29))
   have HP3:=Lib.hid (HP2.out.al (.cells #[.int .i64 0,.string ⟨#[]⟩,.int .i64 0,.slice (some ⟨wr.heap.size,0,none⟩) 1 1,.int .i64 x.line] 29))
   clear hx2 hr2
   have hn3:Blk ((wr.alloc (.cells #[.int .i64 x.op,.string x.s,.int .i64 x.n,.slice A x.l.length cx,.int .i64 x.line] 29)).alloc (.cells #[.int .i64 0,.string ⟨#[]⟩,.int .i64 0,.slice (some ⟨wr.heap.size,0,none⟩) 1 1,.int .i64 x.line] 29)) (wr.heap.size+1) 29 #[.int .i64 0,.string ⟨#[]⟩,.int .i64 0,.slice (some ⟨wr.heap.size,0,none⟩) 1 1,.int .i64 x.line]:=by have:=Blk.new (wr.alloc (.cells #[.int .i64 x.op,.string x.s,.int .i64 x.n,.slice A x.l.length cx,.int .i64 x.line] 29)) 29 #[.int .i64 0,.string ⟨#[]⟩,.int .i64 0,.slice (some ⟨wr.heap.size,0,none⟩) 1 1,.int .i64 x.line];rw [World.size_alloc] at this;exact this
   cases ha:atF [[46]] l2 with
   | true =>
    rw [ha,if_pos rfl] at hy
    go_wp2_with fail
    refine (takes1 HS3.out ⟨#[46]⟩ _ ?hx1 _ ha).mono ?_
    case hx1=>simp
    rintro e w4 ⟨rfl,hs,ht⟩
    have hs:St w4 rb last l2.tail:=by simpa using hs
    have HS4:=Lib.hid hs
    have HT4:=Lib.hid (TurnR.trans HT3.out ht)
    have hx4:=hx3.tr ht (by omega)
    have hr4:=hr3.tr ht (by omega)
    have hn4:=hn3.tr ht (by omega)
    have HX4:=Lib.hid (HX3.out.tr ht (by omega))
    have HP4:=Lib.hid (HP3.out.tr ht (by omega) (by omega))
    have hlhx4:=hx4.lt
    have hlhr4:=hr4.lt
    have hlhn4:=hn4.lt
    clear ht hs hx3 hr3 hn3
    go_wp2_with fail
    refine (here_calls _ rb last _ HS4.out).mono ?_
    rintro e w6 ⟨rfl,hb⟩
    unfold tokV
    have ht:=turn_below (rb:=rb) hb
    have hs:=HS4.out.below hb
    clear hb
    have HS5:=Lib.hid hs
    have HT5:=Lib.hid (TurnR.trans HT4.out ht)
    have hx5:=hx4.tr ht (by omega)
    have hr5:=hr4.tr ht (by omega)
    have hn5:=hn4.tr ht (by omega)
    have HX5:=Lib.hid (HX4.out.tr ht (by omega))
    have HP5:=Lib.hid (HP4.out.tr ht (by omega) (by omega))
    have hlhx5:=hx5.lt
    have hlhr5:=hr5.lt
    have hlhn5:=hn5.lt
    clear ht hs hx4 hr4 hn4
    cases hk1:((hereF last l2.tail).t.kind==1) with
    | true =>
     have hk1':(hereF last l2.tail).t.kind=1:=by simpa using hk1
     have hkn1:((1:Int) != 1)=false:=by decide
     have hy:(fns last n).members b (nd 13 (hereF last l2.tail).t.s [x] x.line) l2.tail.tail=some y:=by rw [if_neg (by simp [hk1'])] at hy;exact hy
     have hsl:(hereF last l2.tail).t.s.length≤65536:=by
      cases hl:l2.tail with
      | nil=>exact Nat.zero_le _
      | cons t l3=>have:=HS5.out.ok (t:=t) (by rw [hl];simp);simpa [hereF,hl] using this.s
     have HS6:=Lib.hid (HS5.out.alloc (.cells #[.int .i64 1,.string ⟨(hereF last l2.tail).t.s.toArray⟩,.int .i64 (hereF last l2.tail).t.n,.int .i64 (hereF last l2.tail).line,.bool (hereF last l2.tail).nl] 37))
     have HT6:=Lib.hid (TurnR.al HT5.out (.cells #[.int .i64 1,.string ⟨(hereF last l2.tail).t.s.toArray⟩,.int .i64 (hereF last l2.tail).t.n,.int .i64 (hereF last l2.tail).line,.bool (hereF last l2.tail).nl] 37))
     have hx6:=hx5.alloc (.cells #[.int .i64 1,.string ⟨(hereF last l2.tail).t.s.toArray⟩,.int .i64 (hereF last l2.tail).t.n,.int .i64 (hereF last l2.tail).line,.bool (hereF last l2.tail).nl] 37)
     have hr6:=hr5.alloc (.cells #[.int .i64 1,.string ⟨(hereF last l2.tail).t.s.toArray⟩,.int .i64 (hereF last l2.tail).t.n,.int .i64 (hereF last l2.tail).line,.bool (hereF last l2.tail).nl] 37)
     have hn6:=hn5.alloc (.cells #[.int .i64 1,.string ⟨(hereF last l2.tail).t.s.toArray⟩,.int .i64 (hereF last l2.tail).t.n,.int .i64 (hereF last l2.tail).line,.bool (hereF last l2.tail).nl] 37)
     have HX6:=Lib.hid (HX5.out.al (.cells #[.int .i64 1,.string ⟨(hereF last l2.tail).t.s.toArray⟩,.int .i64 (hereF last l2.tail).t.n,.int .i64 (hereF last l2.tail).line,.bool (hereF last l2.tail).nl] 37))
     have HP6:=Lib.hid (HP5.out.al (.cells #[.int .i64 1,.string ⟨(hereF last l2.tail).t.s.toArray⟩,.int .i64 (hereF last l2.tail).t.n,.int .i64 (hereF last l2.tail).line,.bool (hereF last l2.tail).nl] 37))
     clear hx5 hr5 hn5
     have HSL:=Lib.hid hsl
     have HY:=Lib.hid hy
     clear hy hsl
     go_wp2_with fail
     refine (skip_calls _ rb last l2.tail HS6.out).mono ?_
     rintro e w7 ⟨rfl,hs,ht⟩
     unfold tokV
     have HS7:=Lib.hid hs
     have HT7:=Lib.hid (TurnR.trans HT6.out ht)
     have hx7:=hx6.tr ht (by omega)
     have hr7:=hr6.tr ht (by omega)
     have hn7:=hn6.tr ht (by omega)
     have HX7:=Lib.hid (HX6.out.tr ht (by omega))
     have HP7:=Lib.hid (HP6.out.tr ht (by omega) (by omega))
     have hlhx7:=hx7.lt
     have hlhr7:=hr7.lt
     have hlhn7:=hn7.lt
     clear ht hs hx6 hr6 hn6
     obtain ⟨⟨p0,p1,p2,p3,p4⟩,q0,q1,q2,q3,q4⟩:=hn7.five
     obtain ⟨⟨e0,e1,e2,e3,e4⟩,f0',f1',f2',f3',f4'⟩:=hx7.five
     have HH:=Lib.hid (mem_fin hrB hBw (by omega) (by simp;try omega) ((((HP7.out).far (p:=⟨wr.heap.size+1,0,none⟩) (fun h=>h.2 rfl) (by simp [Value.ownBlock];try omega) (.int .i64 13))).far (p:=⟨wr.heap.size+1,1,none⟩) (fun h=>h.2 rfl) (by simp [Value.ownBlock];try omega) (.string ⟨(hereF last l2.tail).t.s.toArray⟩)) ((((HS7.out).set' (g:=wr.heap.size+1) (j:=0) (by omega) (.int .i64 13))).set' (g:=wr.heap.size+1) (j:=1) (by omega) (.string ⟨(hereF last l2.tail).t.s.toArray⟩)) (TurnR.set (p:=⟨wr.heap.size+1,1,none⟩) (TurnR.set (p:=⟨wr.heap.size+1,0,none⟩) HT7.out (by show w.heap.size≤wr.heap.size+1;omega) (.int .i64 13)) (by show w.heap.size≤wr.heap.size+1;omega) (.string ⟨(hereF last l2.tail).t.s.toArray⟩)) ((((hx7).far (p:=⟨wr.heap.size+1,0,none⟩) (by show w.heap.size≠wr.heap.size+1;omega) (.int .i64 13))).far (p:=⟨wr.heap.size+1,1,none⟩) (by show w.heap.size≠wr.heap.size+1;omega) (.string ⟨(hereF last l2.tail).t.s.toArray⟩)) ((((hr7).far (p:=⟨wr.heap.size+1,0,none⟩) (by show w.heap.size+1≠wr.heap.size+1;omega) (.int .i64 13))).far (p:=⟨wr.heap.size+1,1,none⟩) (by show w.heap.size+1≠wr.heap.size+1;omega) (.string ⟨(hereF last l2.tail).t.s.toArray⟩)) (.int .i64 13) (.string ⟨((hereF last l2.tail).t.s:List UInt8).toArray⟩) (.int .i64 0) (.slice (some ⟨wr.heap.size,0,none⟩) 1 1) (.int .i64 x.line))
     have hwn:w.heap.size≠wr.heap.size+1:=by omega
     have hwm:wr.heap.size+1≠w.heap.size:=by omega
     clear hn7 hx7 hr7
     go_wp2
     go_roundg n
     case measure=>omega
     case rel =>
      have hn9:=HN.out
      obtain ⟨d9,h1,h2,h3,h4,h5⟩:=HH.out
      exact ⟨nd 13 (hereF last l2.tail).t.s [x] x.line,(some ⟨wr.heap.size,0,none⟩),1,d9,l2.tail.tail,by omega,nd_ok (by have:=HSL.out;simp only [maxLen];omega) (by decide),h1,h2,h3,h4,h5,HY.out⟩
    | false =>
     have hk1':¬ (hereF last l2.tail).t.kind=1:=by simpa using hk1
     have hkn1:((hereF last l2.tail).t.kind != 1)=true:=by unfold bne;rw [hk1];rfl
     cases hk2:((hereF last l2.tail).t.kind==2) with
     | true =>
      have hk2':(hereF last l2.tail).t.kind=2:=by simpa using hk2
      have hkn2:((2:Int) != 2)=false:=by decide
      have hy:(fns last n).members b (nd 13 (hereF last l2.tail).t.s [x] x.line) l2.tail.tail=some y:=by rw [if_neg (by simp [hk2'])] at hy;exact hy
      have hsl:(hereF last l2.tail).t.s.length≤65536:=by
       cases hl:l2.tail with
       | nil=>exact Nat.zero_le _
       | cons t l3=>have:=HS5.out.ok (t:=t) (by rw [hl];simp);simpa [hereF,hl] using this.s
      have HS6:=Lib.hid (HS5.out.alloc (.cells #[.int .i64 2,.string ⟨(hereF last l2.tail).t.s.toArray⟩,.int .i64 (hereF last l2.tail).t.n,.int .i64 (hereF last l2.tail).line,.bool (hereF last l2.tail).nl] 37))
      have HT6:=Lib.hid (TurnR.al HT5.out (.cells #[.int .i64 2,.string ⟨(hereF last l2.tail).t.s.toArray⟩,.int .i64 (hereF last l2.tail).t.n,.int .i64 (hereF last l2.tail).line,.bool (hereF last l2.tail).nl] 37))
      have hx6:=hx5.alloc (.cells #[.int .i64 2,.string ⟨(hereF last l2.tail).t.s.toArray⟩,.int .i64 (hereF last l2.tail).t.n,.int .i64 (hereF last l2.tail).line,.bool (hereF last l2.tail).nl] 37)
      have hr6:=hr5.alloc (.cells #[.int .i64 2,.string ⟨(hereF last l2.tail).t.s.toArray⟩,.int .i64 (hereF last l2.tail).t.n,.int .i64 (hereF last l2.tail).line,.bool (hereF last l2.tail).nl] 37)
      have hn6:=hn5.alloc (.cells #[.int .i64 2,.string ⟨(hereF last l2.tail).t.s.toArray⟩,.int .i64 (hereF last l2.tail).t.n,.int .i64 (hereF last l2.tail).line,.bool (hereF last l2.tail).nl] 37)
      have HX6:=Lib.hid (HX5.out.al (.cells #[.int .i64 2,.string ⟨(hereF last l2.tail).t.s.toArray⟩,.int .i64 (hereF last l2.tail).t.n,.int .i64 (hereF last l2.tail).line,.bool (hereF last l2.tail).nl] 37))
      have HP6:=Lib.hid (HP5.out.al (.cells #[.int .i64 2,.string ⟨(hereF last l2.tail).t.s.toArray⟩,.int .i64 (hereF last l2.tail).t.n,.int .i64 (hereF last l2.tail).line,.bool (hereF last l2.tail).nl] 37))
      clear hx5 hr5 hn5
      have HSL:=Lib.hid hsl
      have HY:=Lib.hid hy
      clear hy hsl
      go_wp2_with fail
      refine (skip_calls _ rb last l2.tail HS6.out).mono ?_
      rintro e w7 ⟨rfl,hs,ht⟩
      unfold tokV
      have HS7:=Lib.hid hs
      have HT7:=Lib.hid (TurnR.trans HT6.out ht)
      have hx7:=hx6.tr ht (by omega)
      have hr7:=hr6.tr ht (by omega)
      have hn7:=hn6.tr ht (by omega)
      have HX7:=Lib.hid (HX6.out.tr ht (by omega))
      have HP7:=Lib.hid (HP6.out.tr ht (by omega) (by omega))
      have hlhx7:=hx7.lt
      have hlhr7:=hr7.lt
      have hlhn7:=hn7.lt
      clear ht hs hx6 hr6 hn6
      obtain ⟨⟨p0,p1,p2,p3,p4⟩,q0,q1,q2,q3,q4⟩:=hn7.five
      obtain ⟨⟨e0,e1,e2,e3,e4⟩,f0',f1',f2',f3',f4'⟩:=hx7.five
      have HH:=Lib.hid (mem_fin hrB hBw (by omega) (by simp;try omega) ((((HP7.out).far (p:=⟨wr.heap.size+1,0,none⟩) (fun h=>h.2 rfl) (by simp [Value.ownBlock];try omega) (.int .i64 13))).far (p:=⟨wr.heap.size+1,1,none⟩) (fun h=>h.2 rfl) (by simp [Value.ownBlock];try omega) (.string ⟨(hereF last l2.tail).t.s.toArray⟩)) ((((HS7.out).set' (g:=wr.heap.size+1) (j:=0) (by omega) (.int .i64 13))).set' (g:=wr.heap.size+1) (j:=1) (by omega) (.string ⟨(hereF last l2.tail).t.s.toArray⟩)) (TurnR.set (p:=⟨wr.heap.size+1,1,none⟩) (TurnR.set (p:=⟨wr.heap.size+1,0,none⟩) HT7.out (by show w.heap.size≤wr.heap.size+1;omega) (.int .i64 13)) (by show w.heap.size≤wr.heap.size+1;omega) (.string ⟨(hereF last l2.tail).t.s.toArray⟩)) ((((hx7).far (p:=⟨wr.heap.size+1,0,none⟩) (by show w.heap.size≠wr.heap.size+1;omega) (.int .i64 13))).far (p:=⟨wr.heap.size+1,1,none⟩) (by show w.heap.size≠wr.heap.size+1;omega) (.string ⟨(hereF last l2.tail).t.s.toArray⟩)) ((((hr7).far (p:=⟨wr.heap.size+1,0,none⟩) (by show w.heap.size+1≠wr.heap.size+1;omega) (.int .i64 13))).far (p:=⟨wr.heap.size+1,1,none⟩) (by show w.heap.size+1≠wr.heap.size+1;omega) (.string ⟨(hereF last l2.tail).t.s.toArray⟩)) (.int .i64 13) (.string ⟨((hereF last l2.tail).t.s:List UInt8).toArray⟩) (.int .i64 0) (.slice (some ⟨wr.heap.size,0,none⟩) 1 1) (.int .i64 x.line))
      have hwn:w.heap.size≠wr.heap.size+1:=by omega
      have hwm:wr.heap.size+1≠w.heap.size:=by omega
      clear hn7 hx7 hr7
      go_wp2
      go_roundg n
      case measure=>omega
      case rel =>
       have hn9:=HN.out
       obtain ⟨d9,h1,h2,h3,h4,h5⟩:=HH.out
       exact ⟨nd 13 (hereF last l2.tail).t.s [x] x.line,(some ⟨wr.heap.size,0,none⟩),1,d9,l2.tail.tail,by omega,nd_ok (by have:=HSL.out;simp only [maxLen];omega) (by decide),h1,h2,h3,h4,h5,HY.out⟩
     | false =>
      have hk2':¬ (hereF last l2.tail).t.kind=2:=by simpa using hk2
      have hkn2:((hereF last l2.tail).t.kind != 2)=true:=by unfold bne;rw [hk2];rfl
      rw [if_pos ⟨hk1',hk2'⟩] at hy
      have hy2:y = .error (stopE last false l2.tail,((hereF last l2.tail).line:Int)):=by have h3:some (Except.error (stopE last false l2.tail,((hereF last l2.tail).line:Int)))=some y:=hy;injection h3 with h3;exact h3.symm
      have HS6:=Lib.hid (HS5.out.alloc (.cells #[.int .i64 (hereF last l2.tail).t.kind,.string ⟨(hereF last l2.tail).t.s.toArray⟩,.int .i64 (hereF last l2.tail).t.n,.int .i64 (hereF last l2.tail).line,.bool (hereF last l2.tail).nl] 37))
      have HT6:=Lib.hid (TurnR.al HT5.out (.cells #[.int .i64 (hereF last l2.tail).t.kind,.string ⟨(hereF last l2.tail).t.s.toArray⟩,.int .i64 (hereF last l2.tail).t.n,.int .i64 (hereF last l2.tail).line,.bool (hereF last l2.tail).nl] 37))
      have hx6:=hx5.alloc (.cells #[.int .i64 (hereF last l2.tail).t.kind,.string ⟨(hereF last l2.tail).t.s.toArray⟩,.int .i64 (hereF last l2.tail).t.n,.int .i64 (hereF last l2.tail).line,.bool (hereF last l2.tail).nl] 37)
      have hr6:=hr5.alloc (.cells #[.int .i64 (hereF last l2.tail).t.kind,.string ⟨(hereF last l2.tail).t.s.toArray⟩,.int .i64 (hereF last l2.tail).t.n,.int .i64 (hereF last l2.tail).line,.bool (hereF last l2.tail).nl] 37)
      have hn6:=hn5.alloc (.cells #[.int .i64 (hereF last l2.tail).t.kind,.string ⟨(hereF last l2.tail).t.s.toArray⟩,.int .i64 (hereF last l2.tail).t.n,.int .i64 (hereF last l2.tail).line,.bool (hereF last l2.tail).nl] 37)
      have HX6:=Lib.hid (HX5.out.al (.cells #[.int .i64 (hereF last l2.tail).t.kind,.string ⟨(hereF last l2.tail).t.s.toArray⟩,.int .i64 (hereF last l2.tail).t.n,.int .i64 (hereF last l2.tail).line,.bool (hereF last l2.tail).nl] 37))
      have HP6:=Lib.hid (HP5.out.al (.cells #[.int .i64 (hereF last l2.tail).t.kind,.string ⟨(hereF last l2.tail).t.s.toArray⟩,.int .i64 (hereF last l2.tail).t.n,.int .i64 (hereF last l2.tail).line,.bool (hereF last l2.tail).nl] 37))
      clear hx5 hr5 hn5
      have HY2:=Lib.hid hy2
      clear hy hy2
      go_wp2_with fail
      refine (stops_calls _ rb last l2.tail HS6.out false).mono ?_
      rintro e w7 ⟨rfl,hb⟩
      exact ⟨rfl,PostS.err HY2.out (TurnR.trans HT6.out (turn_below hb))⟩
   | false =>
    rw [ha,if_neg (by decide)] at hy
    go_wp2_with fail
    refine (takes1 HS3.out ⟨#[46]⟩ _ ?hx2 _ ha).mono ?_
    case hx2=>simp
    rintro e w4 ⟨rfl,hs,ht⟩
    have hs:St w4 rb last l2:=by simpa using hs
    have HS4:=Lib.hid hs
    have HT4:=Lib.hid (TurnR.trans HT3.out ht)
    have hx4:=hx3.tr ht (by omega)
    have hr4:=hr3.tr ht (by omega)
    have hn4:=hn3.tr ht (by omega)
    have HX4:=Lib.hid (HX3.out.tr ht (by omega))
    have HP4:=Lib.hid (HP3.out.tr ht (by omega) (by omega))
    have hlhx4:=hx4.lt
    have hlhr4:=hr4.lt
    have hlhn4:=hn4.lt
    clear ht hs hx3 hr3 hn3
    cases hb:atF [[91]] l2 with
    | true =>
     rw [hb,if_pos rfl] at hy
     go_wp2_with fail
     refine (takes1 HS4.out ⟨#[91]⟩ _ ?hx3 _ hb).mono ?_
     case hx3=>simp
     rintro e w5 ⟨rfl,hs,ht⟩
     have hs:St w5 rb last l2.tail:=by simpa using hs
     have HS5:=Lib.hid hs
     have HT5:=Lib.hid (TurnR.trans HT4.out ht)
     have hx5:=hx4.tr ht (by omega)
     have hr5:=hr4.tr ht (by omega)
     have hn5:=hn4.tr ht (by omega)
     have HX5:=Lib.hid (HX4.out.tr ht (by omega))
     have HP5:=Lib.hid (HP4.out.tr ht (by omega) (by omega))
     have hlhx5:=hx5.lt
     have hlhr5:=hr5.lt
     have hlhn5:=hn5.lt
     clear ht hs hx4 hr4 hn4
     clear HX5
     obtain ⟨⟨p0,p1,p2,p3,p4⟩,q0,q1,q2,q3,q4⟩:=hn5.five
     have hs6:=HS5.out.set' (g:=wr.heap.size+1) (j:=0) (by omega) (.int .i64 14)
     have ht6:=TurnR.set (p:=⟨wr.heap.size+1,0,none⟩) HT5.out (by show w.heap.size≤wr.heap.size+1;omega) (.int .i64 14)
     have hx6:=hx5.far (p:=⟨wr.heap.size+1,0,none⟩) (by show w.heap.size≠wr.heap.size+1;omega) (.int .i64 14)
     have hr6:=hr5.far (p:=⟨wr.heap.size+1,0,none⟩) (by show w.heap.size+1≠wr.heap.size+1;omega) (.int .i64 14)
     have hn6:Blk (w5.setCell ⟨wr.heap.size+1,0,none⟩ (.int .i64 14)) (wr.heap.size+1) 29 #[.int .i64 14,.string ⟨#[]⟩,.int .i64 0,.slice (some ⟨wr.heap.size,0,none⟩) 1 1,.int .i64 x.line]:=by simpa using hn5.set_ 0 (.int .i64 14)
     have hp6:=HP5.out.far (p:=⟨wr.heap.size+1,0,none⟩) (fun h=>h.2 rfl) (by simp [Value.ownBlock]) (.int .i64 14)
     have HH:=Lib.hid (And.intro hs6 (And.intro ht6 (And.intro hx6 (And.intro hr6 (And.intro hn6 hp6)))))
     clear hs6 ht6 hx6 hr6 hn6 hp6 hx5 hr5 hn5
     go_wp2_with fail
     clear p0 p1 p2 p3 p4 q0 q1 q2 q3 q4
     have HH:=HH.out
     generalize w5.setCell ⟨wr.heap.size+1,0,none⟩ (.int .i64 14)=w6 at HH ⊢
     obtain ⟨hs,ht,hx,hr,hn,hp⟩:=HH
     have HS6:=Lib.hid hs.dr
     have HT6:=Lib.hid ht.dr
     have HP6:=Lib.hid hp.dr
     have hz6:wr.heap.size+1<w6.heap.size:=hn.lt
     have hx6:=hx.dr
     have hr6:=hr.dr
     have hn6:=hn.dr
     clear hx hr hn
     obtain ⟨⟨p0,p1,p2,p3,p4⟩,q0,q1,q2,q3,q4⟩:=hn6.five
     clear hs ht hp
     rcases bind_some hy with ⟨⟨c,ln⟩,h1,rfl⟩ | ⟨z,r,h1,h2⟩
     ·have HM:=Lib.hid h1
      clear h1 hy
      go_region_with (first
       | (go_at_call 27;refine (R.expr _ _ _ HS6.out (LF.out.expr _ _ HM.out)).mono ?_;rintro e w7 ⟨rfl,ht7⟩;refine goneAny w7 ⟨rfl,PostS.err rfl (TurnR.trans HT6.out ht7)⟩ ?_))
      all_goals trivial
     have HM:=Lib.hid h1
     have SC:Hid (∀ w9,TurnR rb w6.drew w9→(w9.cell? ⟨wr.heap.size+1,3,none⟩=some (.slice (some ⟨wr.heap.size,0,none⟩) 1 1))):=Lib.hid fun w9 h9=>(hn6.tr h9 (by omega)).cell 3
     have h60:TurnR rb w6.drew w6.drew:=Turn.refl _ _
     clear h1 hy
     apply wp_mid5 (R:=fun v c m g cap w9=>g≠wr.heap.size+1∧wr.heap.size+1<w9.heap.size∧St w9 rb last r∧TurnR rb w w9∧Blk w9 w.heap.size 29 #[.int .i64 x.op,.string x.s,.int .i64 x.n,.slice A x.l.length cx,.int .i64 x.line]∧Blk w9 (w.heap.size+1) 29 zeroN∧Blk w9 (wr.heap.size+1) 29 #[.int .i64 14,.string ⟨#[]⟩,.int .i64 0,.slice (some ⟨g,0,none⟩) (2) cap,.int .i64 x.line]∧RowP (fun k=>(B≤k∧k≠w.heap.size∧k≠w.heap.size+1)∧k≠wr.heap.size+1) (w.heap.size+2) w9 ([x,z]) (.slice (some ⟨g,0,none⟩) (2) cap))
     case h =>
      go_region_law (first
       | (refine step_append_rowP (Bk:=(fun k=>(B≤k∧k≠w.heap.size∧k≠w.heap.size+1)∧k≠wr.heap.size+1)) (B:=w.heap.size+2) (v := .slice (some ⟨wr.heap.size,0,none⟩) 1 1) (acc:=[x]) (by rfl) _ _ (by rfl) (by rfl) (HP7.out.al (.cells #[.int .i64 z.op,.string z.s,.int .i64 z.n,.slice A7 z.l.length c7,.int .i64 z.line] 29)) [(z,.slice A7 z.l.length c7)] ⟨w7.heap.size,0,none⟩ 1 1 (by rfl) (by rfl) (World.news_of_block (Blk.new w7 29 #[.int .i64 z.op,.string z.s,.int .i64 z.n,.slice A7 z.l.length c7,.int .i64 z.line])) (by intro p hp;simp only [List.mem_singleton] at hp;subst hp;exact ⟨HOK7.out,d7,TrP.weaken (fun k _ (hk:w6.heap.size≤k)=>⟨⟨⟨by omega,by omega,by omega⟩,by omega⟩,by simp [Value.ownBlock];omega⟩) (HTX7.out.al (.cells #[.int .i64 z.op,.string z.s,.int .i64 z.n,.slice A7 z.l.length c7,.int .i64 z.line] 29))⟩) (by simp) (by simp) (by rw [World.size_alloc];omega) ?_;intro g cap w8 hrow8 hgrow8 hat8 hlt8;have hn8:=(hn7.alloc (.cells #[.int .i64 z.op,.string z.s,.int .i64 z.n,.slice A7 z.l.length c7,.int .i64 z.line] 29)).grown hgrow8 (by simp [Value.ownBlock]);obtain ⟨⟨s0,s1,s2,s3,s4⟩,r0,r1,r2,r3,r4⟩:=hn8.five;have hz8:=hn8.lt)
       | (go_simp;go_at_call 27;refine (R.expr _ _ _ HS6.out (LF.out.expr _ _ HM.out)).mono ?_;rintro e w7 ⟨⟨v7,rfl,hok7,d7,sl7,rfl,htr7⟩,hs7,ht7⟩;obtain ⟨A7,c7,rfl⟩:=htr7.form;have HOK7:=Lib.hid hok7;have HTX7:=Lib.hid htr7;have HS7:=Lib.hid hs7;have HP7:=Lib.hid (HP6.out.tr ht7 (by omega) (by omega));have hn7:=hn6.tr ht7 (by omega);have hx7:=hx6.tr ht7 (by omega);have hr7:=hr6.tr ht7 (by omega);obtain ⟨⟨t0,t1,t2,t3,t4⟩,u0,u1,u2,u3,u4⟩:=hn7.five;have hz7:=hn7.lt;have hz6':w6.heap.size≤w7.heap.size:=ht7.size))
      all_goals
       have hge:g≠wr.heap.size+1:=by rcases hat8 with h | h;(simp [Value.ownBlock] at h;omega);(simp at h;omega)
       have hs8:=(HS7.out.alloc (.cells #[.int .i64 z.op,.string z.s,.int .i64 z.n,.slice A7 z.l.length c7,.int .i64 z.line] 29)).grown hgrow8 (by simp [Value.ownBlock];omega)
       have ht8:=TurnR.grown (TurnR.al (TurnR.trans HT6.out ht7) (.cells #[.int .i64 z.op,.string z.s,.int .i64 z.n,.slice A7 z.l.length c7,.int .i64 z.line] 29)) hgrow8 (by simp [Value.ownBlock];omega)
       have hx8:=(hx7.alloc (.cells #[.int .i64 z.op,.string z.s,.int .i64 z.n,.slice A7 z.l.length c7,.int .i64 z.line] 29)).grown hgrow8 (by simp [Value.ownBlock];omega)
       have hr8:=(hr7.alloc (.cells #[.int .i64 z.op,.string z.s,.int .i64 z.n,.slice A7 z.l.length c7,.int .i64 z.line] 29)).grown hgrow8 (by simp [Value.ownBlock];omega)
       have hs9:=(hs8.set' (g:=wr.heap.size+1) (j:=3) (by omega) (.slice (some ⟨g,0,none⟩) (2) cap))
       have ht9:=TurnR.set (p:=⟨wr.heap.size+1,3,none⟩) ht8 (by show w.heap.size≤wr.heap.size+1;omega) (.slice (some ⟨g,0,none⟩) (2) cap)
       have hx9:=hx8.far (p:=⟨wr.heap.size+1,3,none⟩) (by show w.heap.size≠wr.heap.size+1;omega) (.slice (some ⟨g,0,none⟩) (2) cap)
       have hr9:=hr8.far (p:=⟨wr.heap.size+1,3,none⟩) (by show w.heap.size+1≠wr.heap.size+1;omega) (.slice (some ⟨g,0,none⟩) (2) cap)
       have hn9:Blk (w8.setCell ⟨wr.heap.size+1,3,none⟩ (.slice (some ⟨g,0,none⟩) (2) cap)) (wr.heap.size+1) 29 #[.int .i64 14,.string ⟨#[]⟩,.int .i64 0,(.slice (some ⟨g,0,none⟩) (2) cap),.int .i64 x.line]:=by simpa using hn8.set_ 3 (.slice (some ⟨g,0,none⟩) (2) cap)
       have hp9:=hrow8.far (p:=⟨wr.heap.size+1,3,none⟩) (fun h=>h.2 rfl) (by intro e;exact hge (by simpa [Value.ownBlock] using e)) (.slice (some ⟨g,0,none⟩) (2) cap)
       obtain ⟨m7,hm7⟩ : ∃ m,m=w7.heap.size:=⟨_,rfl⟩
       rw [← hm7]
       exact ⟨A7,c7,m7,g,cap,rfl,hge,hn9.lt,hs9,ht9,hx9,hr9,hn9,hp9⟩
     intro A7 c7 m7 g cap w9 ⟨hge,hz9,hs9,ht9,hx9,hr9,hn9,hp9⟩
     have HS9:=Lib.hid hs9
     have HT9:=Lib.hid ht9
     have HP9:=Lib.hid hp9
     clear hs9 ht9 hp9
     clear hx6 hr6 hn6
     rcases bind_some h2 with ⟨⟨c,ln⟩,h1,rfl⟩ | ⟨_,r3,h1,h4⟩
     ·have HM:=Lib.hid h1
      clear h1 h2
      go_wp2_with fail
      refine (must1 HS9.out ⟨#[93]⟩ _ ?hx4 _ HM.out).mono ?_
      case hx4=>simp
      rintro e w10 ⟨rfl,ht⟩
      exact ⟨rfl,PostS.err rfl (TurnR.trans HT9.out ht)⟩
     have HM:=Lib.hid h1
     clear h1 h2
     go_wp2_with fail
     refine (must1 HS9.out ⟨#[93]⟩ _ ?hx5 _ HM.out).mono ?_
     case hx5=>simp
     rintro e w10 ⟨⟨v10,rfl,-⟩,hs,ht⟩
     have HS10:=Lib.hid hs
     have HT10:=Lib.hid (TurnR.trans HT9.out ht)
     have hx10:=hx9.tr ht (by omega)
     have hr10:=hr9.tr ht (by omega)
     have hn10:=hn9.tr ht (by omega)
     have HP10:=Lib.hid (HP9.out.tr ht (by omega) (by omega))
     have hlhx10:=hx10.lt
     have hlhr10:=hr10.lt
     have hlhn10:=hn10.lt
     clear ht hs hx9 hr9 hn9
     have HY:=Lib.hid h4
     clear h4
     obtain ⟨⟨p0,p1,p2,p3,p4⟩,q0,q1,q2,q3,q4⟩:=hn10.five
     obtain ⟨⟨e0,e1,e2,e3,e4⟩,f0',f1',f2',f3',f4'⟩:=hx10.five
     have HH:=Lib.hid (mem_fin hrB hBw (hge) (by simp;try omega) HP10.out HS10.out HT10.out hx10 hr10 (.int .i64 14) (.string ⟨([]:List UInt8).toArray⟩) (.int .i64 0) (.slice (some ⟨g,0,none⟩) 2 cap) (.int .i64 x.line))
     have hwn:w.heap.size≠wr.heap.size+1:=by omega
     have hwm:wr.heap.size+1≠w.heap.size:=by omega
     clear hn10 hx10 hr10
     go_wp2
     go_roundg n
     case measure=>omega
     case rel =>
      have hn9:=HN.out
      obtain ⟨d9,h1,h2,h3,h4,h5⟩:=HH.out
      exact ⟨nd 14 [] [x,z] x.line,(some ⟨g,0,none⟩),cap,d9,r3,by omega,nd_ok (by decide) (by decide),h1,h2,h3,h4,h5,HY.out⟩
    | false =>
     rw [hb,if_neg (by decide)] at hy
     go_wp2_with fail
     refine (takes1 HS4.out ⟨#[91]⟩ _ ?hx6 _ hb).mono ?_
     case hx6=>simp
     rintro e w5 ⟨rfl,hs,ht⟩
     have hs:St w5 rb last l2:=by simpa using hs
     have HS5:=Lib.hid hs
     have HT5:=Lib.hid (TurnR.trans HT4.out ht)
     have hx5:=hx4.tr ht (by omega)
     have hr5:=hr4.tr ht (by omega)
     have hn5:=hn4.tr ht (by omega)
     have HX5:=Lib.hid (HX4.out.tr ht (by omega))
     have HP5:=Lib.hid (HP4.out.tr ht (by omega) (by omega))
     have hlhx5:=hx5.lt
     have hlhr5:=hr5.lt
     have hlhn5:=hn5.lt
     clear ht hs hx4 hr4 hn4
     cases b with
     | false =>
      have hy:Rd.ok x l2=some y:=hy
      have hy2:=some_ok hy
      subst hy2
      clear hy
      obtain ⟨⟨a0,a1,a2,a3,a4⟩,-⟩:=hx5.five
      obtain ⟨⟨b0,b1,b2,b3,b4⟩,g0,g1,g2,g3,g4⟩:=hr5.five
      have HK:=Lib.hid hr5
      clear hx5 hr5 hn5
      go_wp2
      refine ret_node (HK.out.set5 _ _ _ _ _) rfl rfl rfl ?_
      refine PostS.ok rfl ⟨HOK.out,d,_,rfl,TrP.weaken (fun k _ hk=>hk.1) (((((HX5.out.far (p:=⟨w.heap.size+1,0,none⟩) (by simp) _).far (p:=⟨w.heap.size+1,1,none⟩) (by simp) _).far (p:=⟨w.heap.size+1,2,none⟩) (by simp) _).far (p:=⟨w.heap.size+1,3,none⟩) (by simp) _).far (p:=⟨w.heap.size+1,4,none⟩) (by simp) _)⟩ (HS5.out.set5 (by omega) _ _ _ _ _) (Turn.set5 HT5.out (by omega) _ _ _ _ _)
     | true =>
      cases hc:atF [[40]] l2 with
      | false =>
       rw [hc,if_neg (by decide)] at hy
       go_wp2_with fail
       refine (takes1 HS5.out ⟨#[40]⟩ _ ?hx7 _ hc).mono ?_
       case hx7=>simp
       rintro e w6 ⟨rfl,hs,ht⟩
       have hs:St w6 rb last l2:=by simpa using hs
       have HS6:=Lib.hid hs
       have HT6:=Lib.hid (TurnR.trans HT5.out ht)
       have hx6:=hx5.tr ht (by omega)
       have hr6:=hr5.tr ht (by omega)
       have hn6:=hn5.tr ht (by omega)
       have HX6:=Lib.hid (HX5.out.tr ht (by omega))
       have HP6:=Lib.hid (HP5.out.tr ht (by omega) (by omega))
       have hlhx6:=hx6.lt
       have hlhr6:=hr6.lt
       have hlhn6:=hn6.lt
       clear ht hs hx5 hr5 hn5
       have hy2:=some_ok hy
       subst hy2
       clear hy
       obtain ⟨⟨a0,a1,a2,a3,a4⟩,-⟩:=hx6.five
       obtain ⟨⟨b0,b1,b2,b3,b4⟩,g0,g1,g2,g3,g4⟩:=hr6.five
       have HK:=Lib.hid hr6
       clear hx6 hr6 hn6
       go_wp2
       refine ret_node (HK.out.set5 _ _ _ _ _) rfl rfl rfl ?_
       refine PostS.ok rfl ⟨HOK.out,d,_,rfl,TrP.weaken (fun k _ hk=>hk.1) (((((HX6.out.far (p:=⟨w.heap.size+1,0,none⟩) (by simp) _).far (p:=⟨w.heap.size+1,1,none⟩) (by simp) _).far (p:=⟨w.heap.size+1,2,none⟩) (by simp) _).far (p:=⟨w.heap.size+1,3,none⟩) (by simp) _).far (p:=⟨w.heap.size+1,4,none⟩) (by simp) _)⟩ (HS6.out.set5 (by omega) _ _ _ _ _) (Turn.set5 HT6.out (by omega) _ _ _ _ _)
      | true =>
       rw [hc,if_pos (by decide)] at hy
       go_wp2_with fail
       refine (takes1 HS5.out ⟨#[40]⟩ _ ?hx8 _ hc).mono ?_
       case hx8=>simp
       rintro e wt ⟨rfl,hs,ht⟩
       have hs:St wt rb last l2.tail:=by simpa using hs
       have HS6:=Lib.hid hs
       have HT6:=Lib.hid (TurnR.trans HT5.out ht)
       have hx6:=hx5.tr ht (by omega)
       have hr6:=hr5.tr ht (by omega)
       have hn6:=hn5.tr ht (by omega)
       have HX6:=Lib.hid (HX5.out.tr ht (by omega))
       have HP6:=Lib.hid (HP5.out.tr ht (by omega) (by omega))
       have hlhx6:=hx6.lt
       have hlhr6:=hr6.lt
       have hlhn6:=hn6.lt
       clear ht hs hx5 hr5 hn5
       clear HX6
       obtain ⟨⟨p0,p1,p2,p3,p4⟩,q0,q1,q2,q3,q4⟩:=hn6.five
       have hs7:=HS6.out.set' (g:=wr.heap.size+1) (j:=0) (by omega) (.int .i64 15)
       have ht7:=TurnR.set (p:=⟨wr.heap.size+1,0,none⟩) HT6.out (by show w.heap.size≤wr.heap.size+1;omega) (.int .i64 15)
       have hx7:=hx6.far (p:=⟨wr.heap.size+1,0,none⟩) (by show w.heap.size≠wr.heap.size+1;omega) (.int .i64 15)
       have hr7:=hr6.far (p:=⟨wr.heap.size+1,0,none⟩) (by show w.heap.size+1≠wr.heap.size+1;omega) (.int .i64 15)
       have hn7:Blk (wt.setCell ⟨wr.heap.size+1,0,none⟩ (.int .i64 15)) (wr.heap.size+1) 29 #[.int .i64 15,.string ⟨#[]⟩,.int .i64 0,.slice (some ⟨wr.heap.size,0,none⟩) 1 1,.int .i64 x.line]:=by simpa using hn6.set_ 0 (.int .i64 15)
       have hp7:=HP6.out.far (p:=⟨wr.heap.size+1,0,none⟩) (fun h=>h.2 rfl) (by simp [Value.ownBlock]) (.int .i64 15)
       have HH:=Lib.hid (And.intro hs7 (And.intro ht7 (And.intro hx7 (And.intro hr7 (And.intro hn7 hp7)))))
       clear hs7 ht7 hx7 hr7 hn7 hp7 hx6 hr6 hn6
       go_wp2_with fail
       clear p0 p1 p2 p3 p4 q0 q1 q2 q3 q4
       have HH:=HH.out
       generalize wt.setCell ⟨wr.heap.size+1,0,none⟩ (.int .i64 15)=w6 at HH ⊢
       obtain ⟨hs,ht,hx,hr,hn,hp⟩:=HH
       have HS7:=Lib.hid hs.dr
       have HT7:=Lib.hid ht.dr
       have HP7:=Lib.hid hp.dr
       have hz6:wr.heap.size+1<w6.heap.size:=hn.lt
       have hx7:=hx.dr
       have hr7:=hr.dr
       have hn7:=hn.dr
       clear hx hr hn
       obtain ⟨⟨p0,p1,p2,p3,p4⟩,q0,q1,q2,q3,q4⟩:=hn7.five
       clear hs ht hp
       rcases bind_some hy with ⟨⟨c,ln⟩,h1,rfl⟩ | ⟨ys,r,h1,h2⟩
       ·have HM:=Lib.hid h1
        clear h1 hy
        go_region_with (first
         | (go_at_call 172;refine (HA _ _ _ HS7.out (le_argsF LF.out _ _ HM.out)).mono ?_;rintro e w7 ⟨rfl,ht7⟩;refine goneAny w7 ⟨rfl,PostS.err rfl (TurnR.trans HT7.out ht7)⟩ ?_))
        all_goals trivial
       have HM:=Lib.hid h1
       clear h1 hy
       cases ys with
       | nil =>
        apply wp_mid0 (R:=fun w9=>wr.heap.size+1<w9.heap.size∧St w9 rb last r∧TurnR rb w w9∧Blk w9 w.heap.size 29 #[.int .i64 x.op,.string x.s,.int .i64 x.n,.slice A x.l.length cx,.int .i64 x.line]∧Blk w9 (w.heap.size+1) 29 zeroN∧Blk w9 (wr.heap.size+1) 29 #[.int .i64 15,.string ⟨#[]⟩,.int .i64 0,.slice (some ⟨wr.heap.size,0,none⟩) 1 1,.int .i64 x.line]∧RowP (fun k=>(B≤k∧k≠w.heap.size∧k≠w.heap.size+1)∧k≠wr.heap.size+1) (w.heap.size+2) w9 ([x]) (.slice (some ⟨wr.heap.size,0,none⟩) 1 1))
        case h =>
         go_region_law (first
          | (refine step_append_none (by rfl) _ _ (by rfl) wr.heap.size 1 1 (by rfl) (by decide) (by rfl) ?_)
          | (go_simp;go_at_call 172;refine (HA _ _ _ HS7.out (le_argsF LF.out _ _ HM.out)).mono ?_;rintro e w7 ⟨⟨v7,rfl,hrow7,hlen7,hnil7⟩,hs7,ht7⟩;have HS7:=Lib.hid hs7;have HP7:=Lib.hid (HP7.out.tr ht7 (by omega) (by omega));have hn7:=hn7.tr ht7 (by omega);have hx7:=hx7.tr ht7 (by omega);have hr7:=hr7.tr ht7 (by omega);obtain ⟨⟨t0,t1,t2,t3,t4⟩,u0,u1,u2,u3,u4⟩:=hn7.five;have hz7:=hn7.lt;have hz6':w6.heap.size≤w7.heap.size:=ht7.size;obtain rfl:=hnil7 rfl))
         all_goals
          have hs8:=HS7.out
          have ht8:=TurnR.trans HT7.out ht7
          have hx8:=hx7
          have hr8:=hr7
          have hn8:=hn7
          have hrow8:=HP7.out
          have hge:wr.heap.size≠wr.heap.size+1:=by omega
          have hs9:=(hs8.set' (g:=wr.heap.size+1) (j:=3) (by omega) (.slice (some ⟨wr.heap.size,0,none⟩) 1 1))
          have ht9:=TurnR.set (p:=⟨wr.heap.size+1,3,none⟩) ht8 (by show w.heap.size≤wr.heap.size+1;omega) (.slice (some ⟨wr.heap.size,0,none⟩) 1 1)
          have hx9:=hx8.far (p:=⟨wr.heap.size+1,3,none⟩) (by show w.heap.size≠wr.heap.size+1;omega) (.slice (some ⟨wr.heap.size,0,none⟩) 1 1)
          have hr9:=hr8.far (p:=⟨wr.heap.size+1,3,none⟩) (by show w.heap.size+1≠wr.heap.size+1;omega) (.slice (some ⟨wr.heap.size,0,none⟩) 1 1)
          have hn9:Blk (w7.setCell ⟨wr.heap.size+1,3,none⟩ (.slice (some ⟨wr.heap.size,0,none⟩) 1 1)) (wr.heap.size+1) 29 #[.int .i64 15,.string ⟨#[]⟩,.int .i64 0,(.slice (some ⟨wr.heap.size,0,none⟩) 1 1),.int .i64 x.line]:=by simpa using hn8.set_ 3 (.slice (some ⟨wr.heap.size,0,none⟩) 1 1)
          have hp9:=hrow8.far (p:=⟨wr.heap.size+1,3,none⟩) (fun h=>h.2 rfl) (by simp [Value.ownBlock]) (.slice (some ⟨wr.heap.size,0,none⟩) 1 1)
          exact ⟨rfl,hn9.lt,hs9,ht9,hx9,hr9,hn9,hp9⟩
        intro w9 ⟨hz9,hs9,ht9,hx9,hr9,hn9,hp9⟩
        have HS9:=Lib.hid hs9
        have HT9:=Lib.hid ht9
        have HP9:=Lib.hid hp9
        clear hs9 ht9 hp9
        clear hx7 hr7 hn7
        have HY:=Lib.hid h2
        clear h2
        obtain ⟨⟨p0,p1,p2,p3,p4⟩,q0,q1,q2,q3,q4⟩:=hn9.five
        obtain ⟨⟨e0,e1,e2,e3,e4⟩,f0',f1',f2',f3',f4'⟩:=hx9.five
        have HH:=Lib.hid (mem_fin hrB hBw (by omega) (by simp;try omega) HP9.out HS9.out HT9.out hx9 hr9 (.int .i64 15) (.string ⟨([]:List UInt8).toArray⟩) (.int .i64 0) (.slice (some ⟨wr.heap.size,0,none⟩) 1 1) (.int .i64 x.line))
        have hwn:w.heap.size≠wr.heap.size+1:=by omega
        have hwm:wr.heap.size+1≠w.heap.size:=by omega
        clear hn9 hx9 hr9
        go_wp2
        go_roundg n
        case measure=>omega
        case rel =>
         have hn9:=HN.out
         obtain ⟨d9,h1,h2,h3,h4,h5⟩:=HH.out
         exact ⟨nd 15 [] [x] x.line,(some ⟨wr.heap.size,0,none⟩),1,d9,r,by omega,nd_ok (by decide) (by decide),h1,h2,h3,h4,h5,HY.out⟩
       | cons y1 ys =>
        have HNE:Hid (y1::ys≠[]):=Lib.hid (by simp)
        obtain ⟨zs,hzs⟩ : ∃ zs,zs=y1::ys:=⟨_,rfl⟩
        rw [← hzs] at HM HNE h2
        clear hzs y1 ys
        apply wp_mid4 (R:=fun g2 c2 g cap w9=>zs.length≤200000∧g≠wr.heap.size+1∧wr.heap.size+1<w9.heap.size∧St w9 rb last r∧TurnR rb w w9∧Blk w9 w.heap.size 29 #[.int .i64 x.op,.string x.s,.int .i64 x.n,.slice A x.l.length cx,.int .i64 x.line]∧Blk w9 (w.heap.size+1) 29 zeroN∧Blk w9 (wr.heap.size+1) 29 #[.int .i64 15,.string ⟨#[]⟩,.int .i64 0,.slice (some ⟨g,0,none⟩) (zs.length+1) cap,.int .i64 x.line]∧RowP (fun k=>(B≤k∧k≠w.heap.size∧k≠w.heap.size+1)∧k≠wr.heap.size+1) (w.heap.size+2) w9 (x::zs) (.slice (some ⟨g,0,none⟩) (zs.length+1) cap))
        case h =>
         go_region_law (first
          | (refine step_append_rowP (Bk:=(fun k=>(B≤k∧k≠w.heap.size∧k≠w.heap.size+1)∧k≠wr.heap.size+1)) (B:=w.heap.size+2) (v := .slice (some ⟨wr.heap.size,0,none⟩) 1 1) (acc:=[x]) (by rfl) _ _ (by rfl) (by rfl) HP7.out l27 ⟨g27,0,none⟩ zs.length c27 (by rfl) HLZ7.out hnews7 (fun p hp=>⟨(hpl7 p hp).1,(hpl7 p hp).2.imp fun _ ht=>TrP.weaken (fun k _ (hk:w6.heap.size≤k)=>⟨⟨⟨by omega,by omega,by omega⟩,by omega⟩,by simp [Value.ownBlock];omega⟩) ht⟩) (by have:=HLZ7.out;omega) (by have:=HLZ7.out;simp;omega) (by omega) ?_;intro g cap w8 hrow8 hgrow8 hat8 hlt8;have hn8:=hn7.grown hgrow8 (by simp [Value.ownBlock]);obtain ⟨⟨s0,s1,s2,s3,s4⟩,r0,r1,r2,r3,r4⟩:=hn8.five;have hz8:=hn8.lt)
          | (go_simp;go_at_call 172;refine (HA _ _ _ HS7.out (le_argsF LF.out _ _ HM.out)).mono ?_;rintro e w7 ⟨⟨v7,rfl,hrow7,hlen7,hnil7⟩,hs7,ht7⟩;have HS7:=Lib.hid hs7;have HP7:=Lib.hid (HP7.out.tr ht7 (by omega) (by omega));have hn7:=hn7.tr ht7 (by omega);have hx7:=hx7.tr ht7 (by omega);have hr7:=hr7.tr ht7 (by omega);obtain ⟨⟨t0,t1,t2,t3,t4⟩,u0,u1,u2,u3,u4⟩:=hn7.five;have hz7:=hn7.lt;have hz6':w6.heap.size≤w7.heap.size:=ht7.size;obtain ⟨l27,g27,c27,hzs7,hlz7,rfl,hnews7,hpl7⟩:=hrow7.news HNE.out;have HLZ7:=Lib.hid hlz7;have HZS7:=Lib.hid hzs7;clear hlz7 hzs7;have hpos7:0<zs.length:=List.length_pos_iff.2 HNE.out))
         all_goals
          have hge:g≠wr.heap.size+1:=by rcases hat8 with h | h;(simp [Value.ownBlock] at h;omega);omega
          have hs8:=HS7.out.grown hgrow8 (by simp [Value.ownBlock];omega)
          have ht8:=TurnR.grown (TurnR.trans HT7.out ht7) hgrow8 (by simp [Value.ownBlock];omega)
          have hx8:=hx7.grown hgrow8 (by simp [Value.ownBlock];omega)
          have hr8:=hr7.grown hgrow8 (by simp [Value.ownBlock];omega)
          replace hrow8:RowP (fun k=>(B≤k∧k≠w.heap.size∧k≠w.heap.size+1)∧k≠wr.heap.size+1) (w.heap.size+2) w8 (x::zs) (.slice (some ⟨g,0,none⟩) (1+zs.length) cap):=by have h:=hrow8;rw [HZS7.out] at h;exact h
          have hs9:=(hs8.set' (g:=wr.heap.size+1) (j:=3) (by omega) (.slice (some ⟨g,0,none⟩) (1+zs.length) cap))
          have ht9:=TurnR.set (p:=⟨wr.heap.size+1,3,none⟩) ht8 (by show w.heap.size≤wr.heap.size+1;omega) (.slice (some ⟨g,0,none⟩) (1+zs.length) cap)
          have hx9:=hx8.far (p:=⟨wr.heap.size+1,3,none⟩) (by show w.heap.size≠wr.heap.size+1;omega) (.slice (some ⟨g,0,none⟩) (1+zs.length) cap)
          have hr9:=hr8.far (p:=⟨wr.heap.size+1,3,none⟩) (by show w.heap.size+1≠wr.heap.size+1;omega) (.slice (some ⟨g,0,none⟩) (1+zs.length) cap)
          have hn9:Blk (w8.setCell ⟨wr.heap.size+1,3,none⟩ (.slice (some ⟨g,0,none⟩) (1+zs.length) cap)) (wr.heap.size+1) 29 #[.int .i64 15,.string ⟨#[]⟩,.int .i64 0,(.slice (some ⟨g,0,none⟩) (1+zs.length) cap),.int .i64 x.line]:=by simpa using hn8.set_ 3 (.slice (some ⟨g,0,none⟩) (1+zs.length) cap)
          have hp9:=hrow8.far (p:=⟨wr.heap.size+1,3,none⟩) (fun h=>h.2 rfl) (by intro e;exact hge (by simpa [Value.ownBlock] using e)) (.slice (some ⟨g,0,none⟩) (1+zs.length) cap)
          exact ⟨g27,c27,g,cap,rfl,hlen7,hge,hn9.lt,hs9,ht9,hx9,hr9,by rw [Nat.add_comm zs.length 1];exact hn9,by rw [Nat.add_comm zs.length 1];exact hp9⟩
        intro g2 c2 g cap w9 ⟨hlz,hge,hz9,hs9,ht9,hx9,hr9,hn9,hp9⟩
        have HS9:=Lib.hid hs9
        have HT9:=Lib.hid ht9
        have HP9:=Lib.hid hp9
        clear hs9 ht9 hp9
        clear hx7 hr7 hn7
        have HY:=Lib.hid h2
        clear h2
        obtain ⟨⟨p0,p1,p2,p3,p4⟩,q0,q1,q2,q3,q4⟩:=hn9.five
        obtain ⟨⟨e0,e1,e2,e3,e4⟩,f0',f1',f2',f3',f4'⟩:=hx9.five
        have HH:=Lib.hid (mem_fin hrB hBw (hge) (by simp;try omega) HP9.out HS9.out HT9.out hx9 hr9 (.int .i64 15) (.string ⟨([]:List UInt8).toArray⟩) (.int .i64 0) (.slice (some ⟨g,0,none⟩) (zs.length+1) cap) (.int .i64 x.line))
        have hwn:w.heap.size≠wr.heap.size+1:=by omega
        have hwm:wr.heap.size+1≠w.heap.size:=by omega
        clear hn9 hx9 hr9
        go_wp2
        go_roundg n
        case measure=>omega
        case rel =>
         have hn9:=HN.out
         obtain ⟨d9,h1,h2,h3,h4,h5⟩:=HH.out
         exact ⟨nd 15 [] (x::zs) x.line,(some ⟨g,0,none⟩),cap,d9,r,by omega,nd_ok (by decide) (by decide),h1,h2,h3,h4,h5,HY.out⟩
end
end Go.Proofs.YtjjdmiaonkailaaGreatDoor
