/- Walks and plain laws, packed: RdN. -/
import Derived.Test.YtjjdmiaonkailaaGreatDoorK33
import Derived.Deep.RegionHeld3
import Derived.Deep.RegionWith
import Derived.Deep.AppendLies
namespace Go.Proofs.YtjjdmiaonkailaaGreatDoor
section
open Go.RowKit Go.Sort
def ObjC (rb last f:Nat):Prop := ∀ w l y,St w rb last l→objectS last (fns last f) l=some y→Calls Tryz.prog 191 #[rdP rb] w (PostS rb last w (NodeV w.heap.size) y)
theorem here_ok {w:World} {rb last:Nat} {l:List Tl} (h:St w rb last l) (hk:(hereF last l).t.kind≠0):(hereF last l).t.s.length≤65536∧0≤(hereF last l).t.n∧(hereF last l).t.n≤999999999999999:=by
 cases l with
 | nil=>exact absurd rfl hk
 | cons t l =>
  have:=h.ok (t:=t) (by simp)
  exact ⟨this.s,this.n0,this.n1⟩
theorem plain_wf (s:List UInt8):(Lit.int .i64 (plainF s)).wf=true:=by
 unfold plainF
 repeat' split
 all_goals decide
theorem wf_small {n:Int} (h0:0≤n) (h1:n≤999999999999999):(Lit.int .i64 n).wf=true:=by
 have h2:IntKind.i64.min = -9223372036854775808:=by decide
 have h3:IntKind.i64.max=9223372036854775807:=by decide
 simp only [Lit.wf,h2,h3,Bool.and_eq_true,decide_eq_true_eq]
 omega
set_option maxRecDepth 100000 in
set_option maxHeartbeats 4000000 in
theorem thing_step {rb last f:Nat} (R:AllR rb last f) (HO:ObjC rb last f) (w:World) (l:List Tl) (y:Except (Int × Int) (Tree × List Tl)) (h:St w rb last l) (hy:thingS last (fns last f) l=some y) :
  Calls Tryz.prog 171 #[rdP rb] w (PostS rb last w (NodeV w.heap.size) y):=by
 have f0:=field_tok0
 have HOKH:=Lib.hid (fun hk=>here_ok (last:=last) h hk)
 have hlt:=h.lt
 have HS0:=Lib.hid (h.alloc (.cells zeroN 29))
 have hk0:=Blk.new w 29 zeroN
 have HT0:=Lib.hid (alloc_turn w rb (.cells zeroN 29))
 have hz0:w.heap.size+1≤(w.alloc (.cells zeroN 29)).heap.size:=by simp
 unfold thingS at hy
 clear h
 go_enter Tryz.func171,Tryz.ntmps171
 simp only at hy
 go_wp2_with fail
 refine (here_calls _ rb last _ HS0.out).mono ?_
 rintro e w2 ⟨rfl,hb⟩
 unfold tokV
 have ht:=turn_below (rb:=rb) hb
 have hs:=HS0.out.below hb
 clear hb
 have HS1:=Lib.hid hs
 have HT1:=Lib.hid (TurnR.trans HT0.out ht)
 have hk1:=hk0.tr ht (by omega)
 have hlhk1:=hk1.lt
 clear ht hs hk0
 obtain ⟨kk,hkk⟩ : ∃ k,k=(hereF last l).t.kind:=⟨_,rfl⟩
 rw [← hkk]
 have HOK2:=Lib.hid HOKH.out
 rw [← hkk] at hy HOK2
 clear hkk HOKH
 have hz2:w.heap.size+1≤w2.heap.size:=by omega
 have HS2:=Lib.hid (HS1.out.alloc (.cells #[.int .i64 kk,.string ⟨(hereF last l).t.s.toArray⟩,.int .i64 (hereF last l).t.n,.int .i64 (hereF last l).line,.bool (hereF last l).nl] 37))
 have HT2:=Lib.hid (TurnR.al HT1.out (.cells #[.int .i64 kk,.string ⟨(hereF last l).t.s.toArray⟩,.int .i64 (hereF last l).t.n,.int .i64 (hereF last l).line,.bool (hereF last l).nl] 37))
 have hk2:=hk1.alloc (.cells #[.int .i64 kk,.string ⟨(hereF last l).t.s.toArray⟩,.int .i64 (hereF last l).t.n,.int .i64 (hereF last l).line,.bool (hereF last l).nl] 37)
 have ht2:=Blk.new w2 37 #[.int .i64 kk,.string ⟨(hereF last l).t.s.toArray⟩,.int .i64 (hereF last l).t.n,.int .i64 (hereF last l).line,.bool (hereF last l).nl]
 clear hk1
 have HS3:=Lib.hid (HS2.out.alloc (.cells #[.int .i64 0,.string ⟨#[]⟩,.int .i64 0,.slice none 0 0,.int .i64 (hereF last l).line] 29))
 have HT3:=Lib.hid (TurnR.al HT2.out (.cells #[.int .i64 0,.string ⟨#[]⟩,.int .i64 0,.slice none 0 0,.int .i64 (hereF last l).line] 29))
 have hk3:=hk2.alloc (.cells #[.int .i64 0,.string ⟨#[]⟩,.int .i64 0,.slice none 0 0,.int .i64 (hereF last l).line] 29)
 have ht3:=ht2.alloc (.cells #[.int .i64 0,.string ⟨#[]⟩,.int .i64 0,.slice none 0 0,.int .i64 (hereF last l).line] 29)
 clear hk2 ht2
 have hn3:Blk ((w2.alloc (.cells #[.int .i64 kk,.string ⟨(hereF last l).t.s.toArray⟩,.int .i64 (hereF last l).t.n,.int .i64 (hereF last l).line,.bool (hereF last l).nl] 37)).alloc (.cells #[.int .i64 0,.string ⟨#[]⟩,.int .i64 0,.slice none 0 0,.int .i64 (hereF last l).line] 29)) (w2.heap.size+1) 29 #[.int .i64 0,.string ⟨#[]⟩,.int .i64 0,.slice none 0 0,.int .i64 (hereF last l).line]:=by have:=Blk.new (w2.alloc (.cells #[.int .i64 kk,.string ⟨(hereF last l).t.s.toArray⟩,.int .i64 (hereF last l).t.n,.int .i64 (hereF last l).line,.bool (hereF last l).nl] 37)) 29 #[.int .i64 0,.string ⟨#[]⟩,.int .i64 0,.slice none 0 0,.int .i64 (hereF last l).line];rw [World.size_alloc] at this;exact this
 cases e1:(kk==1) with
 | true =>
  obtain rfl:kk=1:=by simpa using e1
  clear e1
  rw [if_pos rfl] at hy
  go_wp2_with fail
  refine (forb_calls _ _).mono ?_
  rintro e w3 ⟨rfl,rfl⟩
  cases hf:forbF (hereF last l).t.s with
  | true =>
   rw [hf,if_pos rfl] at hy
   have hy2:y = .error (43,((hereF last l).line:Int)):=by injection hy with hy;exact hy.symm
   have HY2:=Lib.hid hy2
   clear hy hy2
   go_wp2_with fail
   refine (fails_calls _ rb last _ HS3.out _).mono ?_
   rintro e w9 ⟨rfl,hb9⟩
   exact ⟨rfl,PostS.err HY2.out (TurnR.trans HT3.out (turn_below hb9))⟩
  | false =>
   rw [hf,if_neg (by decide)] at hy
   obtain rfl:=some_ok hy
   clear hy
   go_wp2_with fail
   have hn3d:=hn3
   have HA:=Lib.hid (And.intro HS3.out (And.intro HT3.out (And.intro hk3 hn3)))
   obtain ⟨⟨p0,p1,p2,p3,p4⟩,r0,r1,r2,r3,r4⟩:=ht3.five
   obtain ⟨⟨q0,q1,q2,q3,q4⟩,s0,s1,s2,s3,s4⟩:=hn3.five
   clear hk3 ht3 hn3 hn3d
   generalize (w2.alloc (.cells #[.int .i64 1,.string ⟨(hereF last l).t.s.toArray⟩,.int .i64 (hereF last l).t.n,.int .i64 (hereF last l).line,.bool (hereF last l).nl] 37)).alloc (.cells #[.int .i64 0,.string ⟨#[]⟩,.int .i64 0,.slice none 0 0,.int .i64 (hereF last l).line] 29)=w3 at HA p0 p1 p2 p3 p4 q0 q1 q2 q3 q4 r0 r1 r2 r3 r4 s0 s1 s2 s3 s4 ⊢
   obtain ⟨hs3,ht3,hk3,hn3⟩:=HA.out
   apply wp_mid0 (R:=fun w9=>St w9 rb last l∧TurnR rb w w9∧Blk w9 w.heap.size 29 zeroN∧Blk w9 (w2.heap.size+1) 29 #[.int .i64 1,.string ⟨(hereF last l).t.s.toArray⟩,.int .i64 0,.slice none 0 0,.int .i64 (hereF last l).line])
   case h =>
    go_region
    all_goals
     first
      | exact ⟨rfl,(((hs3.set' (g:=w2.heap.size+1) (j:=0) (by omega) (.int .i64 1)).set' (g:=w2.heap.size+1) (j:=1) (by omega) (.string ⟨(hereF last l).t.s.toArray⟩))).dr,TurnR.dr (TurnR.set (p:=⟨w2.heap.size+1,1,none⟩) (TurnR.set (p:=⟨w2.heap.size+1,0,none⟩) ht3 (by show w.heap.size≤w2.heap.size+1;omega) (.int .i64 1)) (by show w.heap.size≤w2.heap.size+1;omega) (.string ⟨(hereF last l).t.s.toArray⟩)),((hk3.far (p:=⟨w2.heap.size+1,0,none⟩) (by show w.heap.size≠w2.heap.size+1;omega) (.int .i64 1)).far (p:=⟨w2.heap.size+1,1,none⟩) (by show w.heap.size≠w2.heap.size+1;omega) (.string ⟨(hereF last l).t.s.toArray⟩)).dr,by have hq:=((hn3.set_ 0 (.int .i64 1)).set_ 1 (.string ⟨(hereF last l).t.s.toArray⟩)).dr;simpa using hq⟩
      | exact ⟨rfl,(((hs3.set' (g:=w2.heap.size+1) (j:=1) (by omega) (.string ⟨(hereF last l).t.s.toArray⟩)).set' (g:=w2.heap.size+1) (j:=0) (by omega) (.int .i64 1))).dr,TurnR.dr (TurnR.set (p:=⟨w2.heap.size+1,0,none⟩) (TurnR.set (p:=⟨w2.heap.size+1,1,none⟩) ht3 (by show w.heap.size≤w2.heap.size+1;omega) (.string ⟨(hereF last l).t.s.toArray⟩)) (by show w.heap.size≤w2.heap.size+1;omega) (.int .i64 1)),((hk3.far (p:=⟨w2.heap.size+1,1,none⟩) (by show w.heap.size≠w2.heap.size+1;omega) (.string ⟨(hereF last l).t.s.toArray⟩)).far (p:=⟨w2.heap.size+1,0,none⟩) (by show w.heap.size≠w2.heap.size+1;omega) (.int .i64 1)).dr,by have hq:=((hn3.set_ 1 (.string ⟨(hereF last l).t.s.toArray⟩)).set_ 0 (.int .i64 1)).dr;simpa using hq⟩
   intro w9 ⟨hs9,ht9,hk9,hn9⟩
   have HS9:=Lib.hid hs9
   have HT9:=Lib.hid ht9
   have hz9:=hn9.lt
   clear hs9 ht9
   go_wp2_with fail
   refine (skip_calls _ rb last _ HS9.out).mono ?_
   rintro e w10 ⟨rfl,hs,ht⟩
   unfold tokV
   have HS10:=Lib.hid hs
   have HT10:=Lib.hid (TurnR.trans HT9.out ht)
   have hk10:=hk9.tr ht (by omega)
   have hn10:=hn9.tr ht (by omega)
   have hz10:=hn10.lt
   clear hs ht hk9 hn9
   obtain ⟨⟨b0,b1,b2,b3,b4⟩,g0,g1,g2,g3,g4⟩:=hk10.five
   obtain ⟨⟨a0,a1,a2,a3,a4⟩,-⟩:=hn10.five
   have HK:=Lib.hid hk10
   clear hk10 hn10
   go_wp2
   refine ret_node (HK.out.set5 _ _ _ _ _) rfl rfl rfl ?_
   obtain ⟨q1,q2,d7,q3⟩:=fin_rowt hlt HS10.out HT10.out (RowT.nil (B:=w.heap.size+1)) (by decide) (.int .i64 1) (.string ⟨(hereF last l).t.s.toArray⟩) (.int .i64 0) (.slice none 0 0) (.int .i64 (hereF last l).line)
   exact PostS.ok rfl ⟨nd_ok (by have:=(HOK2.out (by decide)).1;simp only [maxLen];omega) (by decide),d7,_,rfl,q3⟩ q1 q2
 | false =>
  have k1:¬ kk=1:=by simpa using e1
  rw [if_neg k1] at hy
  cases e3:(kk==3) with
  | true =>
   obtain rfl:kk=3:=by simpa using e3
   clear e3
   rw [if_pos rfl] at hy
   obtain rfl:=some_ok hy
   clear hy
   go_wp2_with fail
   have hn3d:=hn3
   have HA:=Lib.hid (And.intro HS3.out (And.intro HT3.out (And.intro hk3 hn3)))
   obtain ⟨⟨p0,p1,p2,p3,p4⟩,r0,r1,r2,r3,r4⟩:=ht3.five
   obtain ⟨⟨q0,q1,q2,q3,q4⟩,s0,s1,s2,s3,s4⟩:=hn3.five
   clear hk3 ht3 hn3 hn3d
   generalize (w2.alloc (.cells #[.int .i64 3,.string ⟨(hereF last l).t.s.toArray⟩,.int .i64 (hereF last l).t.n,.int .i64 (hereF last l).line,.bool (hereF last l).nl] 37)).alloc (.cells #[.int .i64 0,.string ⟨#[]⟩,.int .i64 0,.slice none 0 0,.int .i64 (hereF last l).line] 29)=w3 at HA p0 p1 p2 p3 p4 q0 q1 q2 q3 q4 r0 r1 r2 r3 r4 s0 s1 s2 s3 s4 ⊢
   obtain ⟨hs3,ht3,hk3,hn3⟩:=HA.out
   apply wp_mid0 (R:=fun w9=>St w9 rb last l∧TurnR rb w w9∧Blk w9 w.heap.size 29 zeroN∧Blk w9 (w2.heap.size+1) 29 #[.int .i64 2,.string ⟨#[]⟩,.int .i64 (hereF last l).t.n,.slice none 0 0,.int .i64 (hereF last l).line])
   case h =>
    go_region
    all_goals
     first
      | exact ⟨rfl,(((hs3.set' (g:=w2.heap.size+1) (j:=0) (by omega) (.int .i64 2)).set' (g:=w2.heap.size+1) (j:=2) (by omega) (.int .i64 (hereF last l).t.n))).dr,TurnR.dr (TurnR.set (p:=⟨w2.heap.size+1,2,none⟩) (TurnR.set (p:=⟨w2.heap.size+1,0,none⟩) ht3 (by show w.heap.size≤w2.heap.size+1;omega) (.int .i64 2)) (by show w.heap.size≤w2.heap.size+1;omega) (.int .i64 (hereF last l).t.n)),((hk3.far (p:=⟨w2.heap.size+1,0,none⟩) (by show w.heap.size≠w2.heap.size+1;omega) (.int .i64 2)).far (p:=⟨w2.heap.size+1,2,none⟩) (by show w.heap.size≠w2.heap.size+1;omega) (.int .i64 (hereF last l).t.n)).dr,by have hq:=((hn3.set_ 0 (.int .i64 2)).set_ 2 (.int .i64 (hereF last l).t.n)).dr;simpa using hq⟩
      | exact ⟨rfl,(((hs3.set' (g:=w2.heap.size+1) (j:=2) (by omega) (.int .i64 (hereF last l).t.n)).set' (g:=w2.heap.size+1) (j:=0) (by omega) (.int .i64 2))).dr,TurnR.dr (TurnR.set (p:=⟨w2.heap.size+1,0,none⟩) (TurnR.set (p:=⟨w2.heap.size+1,2,none⟩) ht3 (by show w.heap.size≤w2.heap.size+1;omega) (.int .i64 (hereF last l).t.n)) (by show w.heap.size≤w2.heap.size+1;omega) (.int .i64 2)),((hk3.far (p:=⟨w2.heap.size+1,2,none⟩) (by show w.heap.size≠w2.heap.size+1;omega) (.int .i64 (hereF last l).t.n)).far (p:=⟨w2.heap.size+1,0,none⟩) (by show w.heap.size≠w2.heap.size+1;omega) (.int .i64 2)).dr,by have hq:=((hn3.set_ 2 (.int .i64 (hereF last l).t.n)).set_ 0 (.int .i64 2)).dr;simpa using hq⟩
   intro w9 ⟨hs9,ht9,hk9,hn9⟩
   have HS9:=Lib.hid hs9
   have HT9:=Lib.hid ht9
   have hz9:=hn9.lt
   clear hs9 ht9
   go_wp2_with fail
   refine (skip_calls _ rb last _ HS9.out).mono ?_
   rintro e w10 ⟨rfl,hs,ht⟩
   unfold tokV
   have HS10:=Lib.hid hs
   have HT10:=Lib.hid (TurnR.trans HT9.out ht)
   have hk10:=hk9.tr ht (by omega)
   have hn10:=hn9.tr ht (by omega)
   have hz10:=hn10.lt
   clear hs ht hk9 hn9
   obtain ⟨⟨b0,b1,b2,b3,b4⟩,g0,g1,g2,g3,g4⟩:=hk10.five
   obtain ⟨⟨a0,a1,a2,a3,a4⟩,-⟩:=hn10.five
   have HK:=Lib.hid hk10
   clear hk10 hn10
   go_wp2
   refine ret_node (HK.out.set5 _ _ _ _ _) rfl rfl rfl ?_
   obtain ⟨q1,q2,d7,q3⟩:=fin_rowt hlt HS10.out HT10.out (RowT.nil (B:=w.heap.size+1)) (by decide) (.int .i64 2) (.string ⟨#[]⟩) (.int .i64 (hereF last l).t.n) (.slice none 0 0) (.int .i64 (hereF last l).line)
   exact PostS.ok rfl ⟨⟨by simp [Tree.s,bytesA,maxLen,ByteArray.size],show (Lit.int .i64 2).wf=true by decide,wf_small (HOK2.out (by decide)).2.1 (HOK2.out (by decide)).2.2⟩,d7,_,rfl,q3⟩ q1 q2
  | false =>
   have k3:¬ kk=3:=by simpa using e3
   rw [if_neg k3] at hy
   cases e4:(kk==4) with
   | true =>
    obtain rfl:kk=4:=by simpa using e4
    clear e4
    rw [if_pos rfl] at hy
    obtain rfl:=some_ok hy
    clear hy
    go_wp2_with fail
    have hn3d:=hn3
    have HA:=Lib.hid (And.intro HS3.out (And.intro HT3.out (And.intro hk3 hn3)))
    obtain ⟨⟨p0,p1,p2,p3,p4⟩,r0,r1,r2,r3,r4⟩:=ht3.five
    obtain ⟨⟨q0,q1,q2,q3,q4⟩,s0,s1,s2,s3,s4⟩:=hn3.five
    clear hk3 ht3 hn3 hn3d
    generalize (w2.alloc (.cells #[.int .i64 4,.string ⟨(hereF last l).t.s.toArray⟩,.int .i64 (hereF last l).t.n,.int .i64 (hereF last l).line,.bool (hereF last l).nl] 37)).alloc (.cells #[.int .i64 0,.string ⟨#[]⟩,.int .i64 0,.slice none 0 0,.int .i64 (hereF last l).line] 29)=w3 at HA p0 p1 p2 p3 p4 q0 q1 q2 q3 q4 r0 r1 r2 r3 r4 s0 s1 s2 s3 s4 ⊢
    obtain ⟨hs3,ht3,hk3,hn3⟩:=HA.out
    apply wp_mid0 (R:=fun w9=>St w9 rb last l∧TurnR rb w w9∧Blk w9 w.heap.size 29 zeroN∧Blk w9 (w2.heap.size+1) 29 #[.int .i64 3,.string ⟨(hereF last l).t.s.toArray⟩,.int .i64 0,.slice none 0 0,.int .i64 (hereF last l).line])
    case h =>
     go_region
     all_goals
      first
       | exact ⟨rfl,(((hs3.set' (g:=w2.heap.size+1) (j:=0) (by omega) (.int .i64 3)).set' (g:=w2.heap.size+1) (j:=1) (by omega) (.string ⟨(hereF last l).t.s.toArray⟩))).dr,TurnR.dr (TurnR.set (p:=⟨w2.heap.size+1,1,none⟩) (TurnR.set (p:=⟨w2.heap.size+1,0,none⟩) ht3 (by show w.heap.size≤w2.heap.size+1;omega) (.int .i64 3)) (by show w.heap.size≤w2.heap.size+1;omega) (.string ⟨(hereF last l).t.s.toArray⟩)),((hk3.far (p:=⟨w2.heap.size+1,0,none⟩) (by show w.heap.size≠w2.heap.size+1;omega) (.int .i64 3)).far (p:=⟨w2.heap.size+1,1,none⟩) (by show w.heap.size≠w2.heap.size+1;omega) (.string ⟨(hereF last l).t.s.toArray⟩)).dr,by have hq:=((hn3.set_ 0 (.int .i64 3)).set_ 1 (.string ⟨(hereF last l).t.s.toArray⟩)).dr;simpa using hq⟩
       | exact ⟨rfl,(((hs3.set' (g:=w2.heap.size+1) (j:=1) (by omega) (.string ⟨(hereF last l).t.s.toArray⟩)).set' (g:=w2.heap.size+1) (j:=0) (by omega) (.int .i64 3))).dr,TurnR.dr (TurnR.set (p:=⟨w2.heap.size+1,0,none⟩) (TurnR.set (p:=⟨w2.heap.size+1,1,none⟩) ht3 (by show w.heap.size≤w2.heap.size+1;omega) (.string ⟨(hereF last l).t.s.toArray⟩)) (by show w.heap.size≤w2.heap.size+1;omega) (.int .i64 3)),((hk3.far (p:=⟨w2.heap.size+1,1,none⟩) (by show w.heap.size≠w2.heap.size+1;omega) (.string ⟨(hereF last l).t.s.toArray⟩)).far (p:=⟨w2.heap.size+1,0,none⟩) (by show w.heap.size≠w2.heap.size+1;omega) (.int .i64 3)).dr,by have hq:=((hn3.set_ 1 (.string ⟨(hereF last l).t.s.toArray⟩)).set_ 0 (.int .i64 3)).dr;simpa using hq⟩
    intro w9 ⟨hs9,ht9,hk9,hn9⟩
    have HS9:=Lib.hid hs9
    have HT9:=Lib.hid ht9
    have hz9:=hn9.lt
    clear hs9 ht9
    go_wp2_with fail
    refine (skip_calls _ rb last _ HS9.out).mono ?_
    rintro e w10 ⟨rfl,hs,ht⟩
    unfold tokV
    have HS10:=Lib.hid hs
    have HT10:=Lib.hid (TurnR.trans HT9.out ht)
    have hk10:=hk9.tr ht (by omega)
    have hn10:=hn9.tr ht (by omega)
    have hz10:=hn10.lt
    clear hs ht hk9 hn9
    obtain ⟨⟨b0,b1,b2,b3,b4⟩,g0,g1,g2,g3,g4⟩:=hk10.five
    obtain ⟨⟨a0,a1,a2,a3,a4⟩,-⟩:=hn10.five
    have HK:=Lib.hid hk10
    clear hk10 hn10
    go_wp2
    refine ret_node (HK.out.set5 _ _ _ _ _) rfl rfl rfl ?_
    obtain ⟨q1,q2,d7,q3⟩:=fin_rowt hlt HS10.out HT10.out (RowT.nil (B:=w.heap.size+1)) (by decide) (.int .i64 3) (.string ⟨(hereF last l).t.s.toArray⟩) (.int .i64 0) (.slice none 0 0) (.int .i64 (hereF last l).line)
    exact PostS.ok rfl ⟨nd_ok (by have:=(HOK2.out (by decide)).1;simp only [maxLen];omega) (by decide),d7,_,rfl,q3⟩ q1 q2
   | false =>
    have k4:¬ kk=4:=by simpa using e4
    rw [if_neg k4] at hy
    cases ha:atF [[40]] l with
    | true =>
     rw [ha,if_pos rfl] at hy
     go_wp2_with fail
     refine (isAt1 HS3.out ⟨#[40]⟩ _ ?hx1 _ ha).mono ?_
     case hx1=>simp
     rintro e w4 ⟨rfl,hb⟩
     have ht:=turn_below (rb:=rb) hb
     have hs:=HS3.out.below hb
     clear hb
     have HS4:=Lib.hid hs
     have HT4:=Lib.hid (TurnR.trans HT3.out ht)
     have hk4:=hk3.tr ht (by omega)
     have ht4:=ht3.tr ht (by omega)
     have hn4:=hn3.tr ht (by omega)
     have hlhk4:=hk4.lt
     have hlht4:=ht4.lt
     have hlhn4:=hn4.lt
     clear ht hs hk3 ht3 hn3
     match y,hy with
     | .error (c,ln),hy =>
      have HM:=Lib.hid hy
      clear hy
      go_wp2_with fail
      refine (head_step R _ _ _ HS4.out HM.out).mono ?_
      rintro e w5 ⟨rfl,ht⟩
      exact ⟨rfl,PostS.err rfl (TurnR.trans HT4.out ht)⟩
     | .ok (x,r),hy =>
      have HM:=Lib.hid hy
      clear hy
      go_wp2_with fail
      refine (head_step R _ _ _ HS4.out HM.out).mono ?_
      rintro e w5 ⟨⟨_,rfl,hok,d,sl,rfl,htr⟩,hs,ht⟩
      obtain ⟨A,cx,rfl⟩:=htr.form
      have HOK:=Lib.hid hok
      have HTX:=Lib.hid (htr.weaken (B':=w.heap.size+1) (by omega))
      clear hok htr
      have HS5:=Lib.hid hs
      have HT5:=Lib.hid (TurnR.trans HT4.out ht)
      have hk5:=hk4.tr ht (by omega)
      have ht5:=ht4.tr ht (by omega)
      have hn5:=hn4.tr ht (by omega)
      have hlhk5:=hk5.lt
      have hlht5:=ht5.lt
      have hlhn5:=hn5.lt
      clear ht hs hk4 ht4 hn4
      obtain ⟨⟨b0,b1,b2,b3,b4⟩,g0,g1,g2,g3,g4⟩:=hk5.five
      have HK:=Lib.hid hk5
      clear hk5 ht5 hn5
      go_wp2
      refine ret_node (HK.out.set5 _ _ _ _ _) rfl rfl rfl ?_
      obtain ⟨q1,q2,q3⟩:=fin_old hlt HS5.out HT5.out HOK.out HTX.out
      exact PostS.ok rfl q3 q1 q2
    | false =>
     rw [ha,if_neg (by decide)] at hy
     go_wp2_with fail
     refine (isAt1 HS3.out ⟨#[40]⟩ _ ?hx2 _ ha).mono ?_
     case hx2=>simp
     rintro e w4 ⟨rfl,hb⟩
     have ht:=turn_below (rb:=rb) hb
     have hs:=HS3.out.below hb
     clear hb
     have HS4:=Lib.hid hs
     have HT4:=Lib.hid (TurnR.trans HT3.out ht)
     have hk4:=hk3.tr ht (by omega)
     have ht4:=ht3.tr ht (by omega)
     have hn4:=hn3.tr ht (by omega)
     have hlhk4:=hk4.lt
     have hlht4:=ht4.lt
     have hlhn4:=hn4.lt
     clear ht hs hk3 ht3 hn3
     cases hb:atF [[123]] l with
     | true =>
      rw [hb,if_pos rfl] at hy
      go_wp2_with fail
      refine (isAt1 HS4.out ⟨#[123]⟩ _ ?hx3 _ hb).mono ?_
      case hx3=>simp
      rintro e w5 ⟨rfl,hb⟩
      have ht:=turn_below (rb:=rb) hb
      have hs:=HS4.out.below hb
      clear hb
      have HS5:=Lib.hid hs
      have HT5:=Lib.hid (TurnR.trans HT4.out ht)
      have hk5:=hk4.tr ht (by omega)
      have ht5:=ht4.tr ht (by omega)
      have hn5:=hn4.tr ht (by omega)
      have hlhk5:=hk5.lt
      have hlht5:=ht5.lt
      have hlhn5:=hn5.lt
      clear ht hs hk4 ht4 hn4
      match y,hy with
      | .error (c,ln),hy =>
       have HM:=Lib.hid hy
       clear hy
       go_wp2_with fail
       refine (HO _ _ _ HS5.out HM.out).mono ?_
       rintro e w6 ⟨rfl,ht⟩
       exact ⟨rfl,PostS.err rfl (TurnR.trans HT5.out ht)⟩
      | .ok (x,r),hy =>
       have HM:=Lib.hid hy
       clear hy
       go_wp2_with fail
       refine (HO _ _ _ HS5.out HM.out).mono ?_
       rintro e w6 ⟨⟨_,rfl,hok,d,sl,rfl,htr⟩,hs,ht⟩
       obtain ⟨A,cx,rfl⟩:=htr.form
       have HOK:=Lib.hid hok
       have HTX:=Lib.hid (htr.weaken (B':=w.heap.size+1) (by omega))
       clear hok htr
       have HS6:=Lib.hid hs
       have HT6:=Lib.hid (TurnR.trans HT5.out ht)
       have hk6:=hk5.tr ht (by omega)
       have ht6:=ht5.tr ht (by omega)
       have hn6:=hn5.tr ht (by omega)
       have hlhk6:=hk6.lt
       have hlht6:=ht6.lt
       have hlhn6:=hn6.lt
       clear ht hs hk5 ht5 hn5
       obtain ⟨⟨b0,b1,b2,b3,b4⟩,g0,g1,g2,g3,g4⟩:=hk6.five
       have HK:=Lib.hid hk6
       clear hk6 ht6 hn6
       go_wp2
       refine ret_node (HK.out.set5 _ _ _ _ _) rfl rfl rfl ?_
       obtain ⟨q1,q2,q3⟩:=fin_old hlt HS6.out HT6.out HOK.out HTX.out
       exact PostS.ok rfl q3 q1 q2
     | false =>
      rw [hb,if_neg (by decide)] at hy
      go_wp2_with fail
      refine (isAt1 HS4.out ⟨#[123]⟩ _ ?hx4 _ hb).mono ?_
      case hx4=>simp
      rintro e w5 ⟨rfl,hb⟩
      have ht:=turn_below (rb:=rb) hb
      have hs:=HS4.out.below hb
      clear hb
      have HS5:=Lib.hid hs
      have HT5:=Lib.hid (TurnR.trans HT4.out ht)
      have hk5:=hk4.tr ht (by omega)
      have ht5:=ht4.tr ht (by omega)
      have hn5:=hn4.tr ht (by omega)
      have hlhk5:=hk5.lt
      have hlht5:=ht5.lt
      have hlhn5:=hn5.lt
      clear ht hs hk4 ht4 hn4
      cases hc:atF [[102,117,110,99,116,105,111,110]] l with
      | true =>
       rw [hc,if_pos rfl] at hy
       go_wp2_with fail
       refine (takes1 HS5.out ⟨#[102,117,110,99,116,105,111,110]⟩ _ ?hx5 _ hc).mono ?_
       case hx5=>simp
       rintro e w6 ⟨rfl,hs,ht⟩
       have hs:St w6 rb last l.tail:=by simpa using hs
       have HS6:=Lib.hid hs
       have HT6:=Lib.hid (TurnR.trans HT5.out ht)
       have hk6:=hk5.tr ht (by omega)
       have ht6:=ht5.tr ht (by omega)
       have hn6:=hn5.tr ht (by omega)
       have hlhk6:=hk6.lt
       have hlht6:=ht6.lt
       have hlhn6:=hn6.lt
       clear ht hs hk5 ht5 hn5
       clear ht6
       obtain ⟨⟨a0,a1,a2,a3,a4⟩,f0,f1,f2,f3,f4⟩:=hn6.five
       have hb:Blk (w6.setCell ⟨w2.heap.size+1,0,none⟩ (.int .i64 10)) (w2.heap.size+1) 29 #[.int .i64 10,.string ⟨#[]⟩,.int .i64 0,.slice none 0 0,.int .i64 (hereF last l).line]:=by have hq:=((hn6).set_ 0 (.int .i64 10));simpa using hq
       have hs:=((HS6.out).set' (g:=w2.heap.size+1) (j:=0) (by omega) (.int .i64 10))
       have ht:=(TurnR.set (p:=⟨w2.heap.size+1,0,none⟩) HT6.out (by show w.heap.size≤w2.heap.size+1;omega) (.int .i64 10))
       have hkk:=((hk6).far (p:=⟨w2.heap.size+1,0,none⟩) (by show w.heap.size≠w2.heap.size+1;omega) (.int .i64 10))
       have HH:=Lib.hid (And.intro hs (And.intro ht (And.intro hkk hb)))
       clear hs ht hkk hb hk6 hn6
       go_wp2_with fail
       clear a0 a1 a2 a3 a4 f0 f1 f2 f3 f4
       have HH:=HH.out
       generalize w6.setCell ⟨w2.heap.size+1,0,none⟩ (.int .i64 10)=w7 at HH ⊢
       obtain ⟨hs,ht,hk7,hn7⟩:=HH
       have HS7:=Lib.hid hs
       have HT7:=Lib.hid ht
       clear hs ht
       have hlhk7:=hk7.lt
       have hlhn7:=hn7.lt
       refine (here_calls _ rb last _ HS7.out).mono ?_
       rintro e w8 ⟨rfl,hb⟩
       unfold tokV
       have ht:=turn_below (rb:=rb) hb
       have hs:=HS7.out.below hb
       clear hb
       have HS8:=Lib.hid hs
       have HT8:=Lib.hid (TurnR.trans HT7.out ht)
       have hk8:=hk7.tr ht (by omega)
       have hn8:=hn7.tr ht (by omega)
       have hzt8:=ht.size
       clear hs ht hk7 hn7
       have hlhk8:=hk8.lt
       have hlhn8:=hn8.lt
       cases e9:((hereF last l.tail).t.kind==1) with
       | false =>
        have e9':¬ (hereF last l.tail).t.kind=1:=by simpa using e9
        rw [if_neg e9'] at hy
        rcases bind_some hy with ⟨⟨c,ln⟩,h1,rfl⟩ | ⟨ps,r,h1,h2⟩
        ·have HM:=Lib.hid h1
         clear h1 hy
         go_wp2_with fail
         refine (R.rest _ _ _ HS8.out HM.out).mono ?_
         rintro e w20 ⟨rfl,ht⟩
         exact ⟨rfl,PostS.err rfl (TurnR.trans HT8.out ht)⟩
        have HM:=Lib.hid h1
        clear h1 hy
        obtain rfl:=some_ok h2
        clear h2
        go_wp2_with fail
        refine (R.rest _ _ _ HS8.out HM.out).mono ?_
        rintro e w20 ⟨⟨v20,rfl,hrow,hpl⟩,hs,ht⟩
        obtain ⟨A4,c4,rfl⟩:=hrow.form
        have HS9:=Lib.hid hs
        have HT9:=Lib.hid (TurnR.trans HT8.out ht)
        have hk9:=hk8.tr ht (by omega)
        have hn9:=hn8.tr ht (by omega)
        have hzt9:=ht.size
        clear hs ht hk8 hn8
        have hlhk9:=hk9.lt
        have hlhn9:=hn9.lt
        have HRX:=Lib.hid (hrow.far (p:=⟨w2.heap.size+1,3,none⟩) (by show w2.heap.size+1<_;omega) (.slice A4 ps.length c4))
        clear hrow
        have HSX:=Lib.hid (HS9.out.set' (g:=w2.heap.size+1) (j:=3) (by omega) (.slice A4 ps.length c4))
        have HTX:=Lib.hid (TurnR.set (p:=⟨w2.heap.size+1,3,none⟩) HT9.out (by show w.heap.size≤w2.heap.size+1;omega) (.slice A4 ps.length c4))
        have HKX:=Lib.hid (hk9.far (p:=⟨w2.heap.size+1,3,none⟩) (by show w.heap.size≠w2.heap.size+1;omega) (.slice A4 ps.length c4))
        obtain ⟨⟨a0,a1,a2,a3,a4⟩,f0,f1,f2,f3,f4⟩:=hn9.five
        obtain ⟨⟨b0,b1,b2,b3,b4⟩,g0,g1,g2,g3,g4⟩:=hk9.five
        have hwn:w.heap.size≠w2.heap.size+1:=by omega
        have hwm:w2.heap.size+1≠w.heap.size:=by omega
        clear hk9 hn9
        go_wp2
        refine ret_node (HKX.out.set5 _ _ _ _ _) rfl rfl rfl ?_
        obtain ⟨q1,q2,d7,q3⟩:=fin_rowt hlt HSX.out HTX.out (HRX.out.weaken (B':=w.heap.size+1) (by omega)) (by omega) (.int .i64 10) (.string ⟨#[]⟩) (.int .i64 0) (.slice A4 ps.length c4) (.int .i64 (hereF last l).line)
        exact PostS.ok rfl ⟨nd_ok (by decide) (by decide),d7,_,rfl,q3⟩ q1 q2
       | true =>
        have e9':(hereF last l.tail).t.kind=1:=by simpa using e9
        rw [if_pos e9'] at hy
        have HNM:Hid (nameF last l.tail=some (.ok ((hereF last l.tail).t.s,l.tail.tail))):=Lib.hid (by unfold nameF;rw [if_pos e9'];rfl)
        have HNL:=Lib.hid (name_len HS8.out HNM.out)
        go_wp2_with fail
        refine (name_calls _ rb last _ HS8.out _ HNM.out).mono ?_
        rintro e w11 ⟨⟨v,rfl,hv⟩,hs,ht⟩
        have hv:v = .string ⟨(hereF last l.tail).t.s.toArray⟩:=hv
        subst hv
        have HS9:=Lib.hid hs
        have HT9:=Lib.hid (TurnR.trans HT8.out ht)
        have hk9:=hk8.tr ht (by omega)
        have hn9:=hn8.tr ht (by omega)
        have hzt9:=ht.size
        clear hs ht hk8 hn8
        have hlhk9:=hk9.lt
        have hlhn9:=hn9.lt
        obtain ⟨⟨a0,a1,a2,a3,a4⟩,f0,f1,f2,f3,f4⟩:=hn9.five
        have hb:Blk (w11.setCell ⟨w2.heap.size+1,1,none⟩ (.string ⟨(hereF last l.tail).t.s.toArray⟩)) (w2.heap.size+1) 29 #[.int .i64 10,.string ⟨(hereF last l.tail).t.s.toArray⟩,.int .i64 0,.slice none 0 0,.int .i64 (hereF last l).line]:=by have hq:=((hn9).set_ 1 (.string ⟨(hereF last l.tail).t.s.toArray⟩));simpa using hq
        have hs:=((HS9.out).set' (g:=w2.heap.size+1) (j:=1) (by omega) (.string ⟨(hereF last l.tail).t.s.toArray⟩))
        have ht:=(TurnR.set (p:=⟨w2.heap.size+1,1,none⟩) HT9.out (by show w.heap.size≤w2.heap.size+1;omega) (.string ⟨(hereF last l.tail).t.s.toArray⟩))
        have hkk:=((hk9).far (p:=⟨w2.heap.size+1,1,none⟩) (by show w.heap.size≠w2.heap.size+1;omega) (.string ⟨(hereF last l.tail).t.s.toArray⟩))
        have HH:=Lib.hid (And.intro hs (And.intro ht (And.intro hkk hb)))
        clear hs ht hkk hb hk9 hn9
        go_wp2_with fail
        clear a0 a1 a2 a3 a4 f0 f1 f2 f3 f4
        have HH:=HH.out
        generalize w11.setCell ⟨w2.heap.size+1,1,none⟩ (.string ⟨(hereF last l.tail).t.s.toArray⟩)=w12 at HH ⊢
        obtain ⟨hs,ht,hk10,hn10⟩:=HH
        have HS10:=Lib.hid hs
        have HT10:=Lib.hid ht
        clear hs ht
        have hlhk10:=hk10.lt
        have hlhn10:=hn10.lt
        rcases bind_some hy with ⟨⟨c,ln⟩,h1,rfl⟩ | ⟨ps,r,h1,h2⟩
        ·have HM:=Lib.hid h1
         clear h1 hy
         go_wp2_with fail
         refine (R.rest _ _ _ HS10.out HM.out).mono ?_
         rintro e w20 ⟨rfl,ht⟩
         exact ⟨rfl,PostS.err rfl (TurnR.trans HT10.out ht)⟩
        have HM:=Lib.hid h1
        clear h1 hy
        obtain rfl:=some_ok h2
        clear h2
        go_wp2_with fail
        refine (R.rest _ _ _ HS10.out HM.out).mono ?_
        rintro e w20 ⟨⟨v20,rfl,hrow,hpl⟩,hs,ht⟩
        obtain ⟨A4,c4,rfl⟩:=hrow.form
        have HS11:=Lib.hid hs
        have HT11:=Lib.hid (TurnR.trans HT10.out ht)
        have hk11:=hk10.tr ht (by omega)
        have hn11:=hn10.tr ht (by omega)
        have hzt11:=ht.size
        clear hs ht hk10 hn10
        have hlhk11:=hk11.lt
        have hlhn11:=hn11.lt
        have HRX:=Lib.hid (hrow.far (p:=⟨w2.heap.size+1,3,none⟩) (by show w2.heap.size+1<_;omega) (.slice A4 ps.length c4))
        clear hrow
        have HSX:=Lib.hid (HS11.out.set' (g:=w2.heap.size+1) (j:=3) (by omega) (.slice A4 ps.length c4))
        have HTX:=Lib.hid (TurnR.set (p:=⟨w2.heap.size+1,3,none⟩) HT11.out (by show w.heap.size≤w2.heap.size+1;omega) (.slice A4 ps.length c4))
        have HKX:=Lib.hid (hk11.far (p:=⟨w2.heap.size+1,3,none⟩) (by show w.heap.size≠w2.heap.size+1;omega) (.slice A4 ps.length c4))
        obtain ⟨⟨a0,a1,a2,a3,a4⟩,f0,f1,f2,f3,f4⟩:=hn11.five
        obtain ⟨⟨b0,b1,b2,b3,b4⟩,g0,g1,g2,g3,g4⟩:=hk11.five
        have hwn:w.heap.size≠w2.heap.size+1:=by omega
        have hwm:w2.heap.size+1≠w.heap.size:=by omega
        clear hk11 hn11
        go_wp2
        refine ret_node (HKX.out.set5 _ _ _ _ _) rfl rfl rfl ?_
        obtain ⟨q1,q2,d7,q3⟩:=fin_rowt hlt HSX.out HTX.out (HRX.out.weaken (B':=w.heap.size+1) (by omega)) (by omega) (.int .i64 10) (.string ⟨(hereF last l.tail).t.s.toArray⟩) (.int .i64 0) (.slice A4 ps.length c4) (.int .i64 (hereF last l).line)
        exact PostS.ok rfl ⟨nd_ok HNL.out (by decide),d7,_,rfl,q3⟩ q1 q2
      | false =>
       rw [hc,if_neg (by decide)] at hy
       go_wp2_with fail
       refine (takes1 HS5.out ⟨#[102,117,110,99,116,105,111,110]⟩ _ ?hx6 _ hc).mono ?_
       case hx6=>simp
       rintro e w6 ⟨rfl,hs,ht⟩
       have hs:St w6 rb last l:=by simpa using hs
       have HS6:=Lib.hid hs
       have HT6:=Lib.hid (TurnR.trans HT5.out ht)
       have hk6:=hk5.tr ht (by omega)
       have ht6:=ht5.tr ht (by omega)
       have hn6:=hn5.tr ht (by omega)
       have hlhk6:=hk6.lt
       have hlht6:=ht6.lt
       have hlhn6:=hn6.lt
       clear ht hs hk5 ht5 hn5
       obtain ⟨⟨p0,p1,p2,p3,p4⟩,-⟩:=ht6.five
       cases e2:(kk==2) with
       | false =>
        have k2:¬ kk=2:=by simpa using e2
        rw [if_neg (fun h=>k2 h.1)] at hy
        have hy2:y = .error (stopE last true l,((hereF last l).line:Int)):=by injection hy with hy;exact hy.symm
        have HY2:=Lib.hid hy2
        clear hy hy2
        go_wp2_with fail
        refine (stops_calls _ rb last _ HS6.out true).mono ?_
        rintro e w9 ⟨rfl,hb9⟩
        exact ⟨rfl,PostS.err HY2.out (TurnR.trans HT6.out (turn_below hb9))⟩
       | true =>
        obtain rfl:kk=2:=by simpa using e2
        clear e2
        have HPW:=Lib.hid (plain_wf (hereF last l).t.s)
        obtain ⟨pv,hpv⟩ : ∃ v,plainF (hereF last l).t.s=v:=⟨_,rfl⟩
        have HPV:=Lib.hid hpv
        rw [hpv] at hy HPW
        clear hpv
        go_wp2_with fail
        refine (plain_calls _ HS6.out.laid _).mono ?_
        rintro e w12 ⟨he,hb⟩
        rw [HPV.out] at he
        subst he
        have ht:=turn_below (rb:=rb) hb
        have hs:=HS6.out.below hb
        clear hb
        have HS7:=Lib.hid hs
        have HT7:=Lib.hid (TurnR.trans HT6.out ht)
        have hk7:=hk6.tr ht (by omega)
        have ht7:=ht6.tr ht (by omega)
        have hn7:=hn6.tr ht (by omega)
        have hlhk7:=hk7.lt
        have hlht7:=ht7.lt
        have hlhn7:=hn7.lt
        clear ht hs hk6 ht6 hn6
        clear p0 p1 p2 p3 p4
        obtain ⟨⟨p0,p1,p2,p3,p4⟩,-⟩:=ht7.five
        by_cases hp:0<pv
        ·have hd:decide (0<pv)=true:=by simpa using hp
         rw [if_pos (by first | exact ⟨rfl,hp⟩ | exact ⟨trivial,hp⟩ | simpa using hp)] at hy
         obtain rfl:=some_ok hy
         clear hy
         go_wp2_with fail
         refine (plain_calls _ HS7.out.laid _).mono ?_
         rintro e w13 ⟨he,hb⟩
         rw [HPV.out] at he
         subst he
         have ht:=turn_below (rb:=rb) hb
         have hs:=HS7.out.below hb
         clear hb
         have HS8:=Lib.hid hs
         have HT8:=Lib.hid (TurnR.trans HT7.out ht)
         have hk8:=hk7.tr ht (by omega)
         have ht8:=ht7.tr ht (by omega)
         have hn8:=hn7.tr ht (by omega)
         have hlhk8:=hk8.lt
         have hlht8:=ht8.lt
         have hlhn8:=hn8.lt
         clear ht hs hk7 ht7 hn7
         clear p0 p1 p2 p3 p4
         obtain ⟨⟨p0,p1,p2,p3,p4⟩,-⟩:=ht8.five
         clear ht8
         obtain ⟨⟨a0,a1,a2,a3,a4⟩,f0,f1,f2,f3,f4⟩:=hn8.five
         have hb:Blk (w13.setCell ⟨w2.heap.size+1,0,none⟩ (.int .i64 pv)) (w2.heap.size+1) 29 #[.int .i64 pv,.string ⟨#[]⟩,.int .i64 0,.slice none 0 0,.int .i64 (hereF last l).line]:=by have hq:=((hn8).set_ 0 (.int .i64 pv));simpa using hq
         have hs:=((HS8.out).set' (g:=w2.heap.size+1) (j:=0) (by omega) (.int .i64 pv))
         have ht:=(TurnR.set (p:=⟨w2.heap.size+1,0,none⟩) HT8.out (by show w.heap.size≤w2.heap.size+1;omega) (.int .i64 pv))
         have hkk:=((hk8).far (p:=⟨w2.heap.size+1,0,none⟩) (by show w.heap.size≠w2.heap.size+1;omega) (.int .i64 pv))
         have HH:=Lib.hid (And.intro hs (And.intro ht (And.intro hkk hb)))
         clear hs ht hkk hb hk8 hn8
         go_wp2_with fail
         clear a0 a1 a2 a3 a4 f0 f1 f2 f3 f4
         have HH:=HH.out
         generalize w13.setCell ⟨w2.heap.size+1,0,none⟩ (.int .i64 pv)=w14 at HH ⊢
         obtain ⟨hs,ht,hk9,hn9⟩:=HH
         have HS9:=Lib.hid hs
         have HT9:=Lib.hid ht
         clear hs ht
         have hlhk9:=hk9.lt
         have hlhn9:=hn9.lt
         clear hp hd
         refine (skip_calls _ rb last _ HS9.out).mono ?_
         rintro e w10 ⟨rfl,hs,ht⟩
         unfold tokV
         have HS10:=Lib.hid hs
         have HT10:=Lib.hid (TurnR.trans HT9.out ht)
         have hk10:=hk9.tr ht (by omega)
         have hn10:=hn9.tr ht (by omega)
         have hz10:=hn10.lt
         clear hs ht hk9 hn9
         obtain ⟨⟨b0,b1,b2,b3,b4⟩,g0,g1,g2,g3,g4⟩:=hk10.five
         obtain ⟨⟨a0,a1,a2,a3,a4⟩,-⟩:=hn10.five
         have HK:=Lib.hid hk10
         clear hk10 hn10
         go_wp2
         refine ret_node (HK.out.set5 _ _ _ _ _) rfl rfl rfl ?_
         obtain ⟨q1,q2,d7,q3⟩:=fin_rowt hlt HS10.out HT10.out (RowT.nil (B:=w.heap.size+1)) (by decide) (.int .i64 pv) (.string ⟨#[]⟩) (.int .i64 0) (.slice none 0 0) (.int .i64 (hereF last l).line)
         exact PostS.ok rfl ⟨nd_ok (by decide) HPW.out,d7,_,rfl,q3⟩ q1 q2
        ·have hd:decide (0<pv)=false:=by simpa using hp
         rw [if_neg (fun h=>hp h.2)] at hy
         have hy2:y = .error (stopE last true l,((hereF last l).line:Int)):=by injection hy with hy;exact hy.symm
         have HY2:=Lib.hid hy2
         clear hy hy2
         go_wp2_with fail
         refine (stops_calls _ rb last _ HS7.out true).mono ?_
         rintro e w9 ⟨rfl,hb9⟩
         exact ⟨rfl,PostS.err HY2.out (TurnR.trans HT7.out (turn_below hb9))⟩
end
end Go.Proofs.YtjjdmiaonkailaaGreatDoor
