/- Walks and plain laws, packed: RdMc. -/
import Derived.Test.YtjjdmiaonkailaaGreatDoorK21
import Derived.Deep.RegionHeld3
import Derived.Deep.RegionWith
import Derived.Deep.AppendLies
import Derived.Deep.RegionLaw
namespace Go.Proofs.YtjjdmiaonkailaaGreatDoor
section
open Go.RowKit Go.Sort
set_option maxRecDepth 100000 in
set_option maxHeartbeats 8000000 in
theorem try_word {rb last f:Nat} (R:AllR rb last f):WordC rb last f [116,114,121] 137:=by
 intro w nb ln l y hrb hn0 h hy0
 have hlt:=h.lt
 have hnl:=hn0.lt
 have hnr:nb≠rb:=by omega
 have HS0:=Lib.hid h
 have HT0:Hid (Turn2 rb nb w w):=Lib.hid (Turn.refl _ _)
 clear h
 unfold wordS at hy0
 go_enter Tryz.func137,Tryz.ntmps137
 have hy:((fns last f).block l).bind (fun x r=>(mustF last [99,97,116,99,104] r).bind fun _ r2=>(mustF last [40] r2).bind fun _ r3=>(nameF last r3).bind fun y r4=>(mustF last [41] r4).bind fun _ r5=>((fns last f).block r5).bind fun z q => .ok (nd 38 y [x,z] ln) q)=some y:=hy0
 clear hy0
 have hs:=HS0.out.set' (g:=nb) (j:=0) hrb (.int .i64 38)
 have ht:=Turn2.set HT0.out 0 (.int .i64 38)
 have hb:Blk (w.setCell ⟨nb,0,none⟩ (.int .i64 38)) nb 29 #[.int .i64 38,.string ⟨#[]⟩,.int .i64 0,.slice none 0 0,.int .i64 ln]:=by simpa using hn0.set_ 0 (.int .i64 38)
 have hrest : ∃ v1,v1=w.setCell ⟨nb,0,none⟩ (.int .i64 38):=⟨_,rfl⟩
 obtain ⟨⟨a0,a1,a2,a3,a4⟩,f0,f1,f2,f3,f4⟩:=hn0.five
 clear hrest
 go_wp2_with fail
 clear a0 a1 a2 a3 a4 f0 f1 f2 f3 f4 hn0
 have hsz1:(w.setCell ⟨nb,0,none⟩ (.int .i64 38)).heap.size=w.heap.size:=by simp only [World.size_setCell]
 have HH:=Lib.hid (And.intro hs (And.intro ht hb))
 clear hs ht hb
 have HH:=HH.out
 generalize w.setCell ⟨nb,0,none⟩ (.int .i64 38)=v1 at HH hsz1 ⊢
 have HSZ1:=Lib.hid hsz1
 clear hsz1
 obtain ⟨hs,ht,hb⟩:=HH
 have HS1:=Lib.hid hs
 have HT1:=Lib.hid ht
 have hn1:=hb
 clear hs ht hb
 have hn1d:=hn1.dr
 have hzn:nb<v1.heap.size:=hn1.lt
 obtain ⟨⟨a0,a1,a2,a3,a4⟩,f0,f1,f2,f3,f4⟩:=hn1.five
 have HN1:=Lib.hid hn1
 clear hn1
 have HSd:=Lib.hid HS1.out.dr
 have HTd:=Lib.hid (Turn2.dr HT1.out)
 have hwz:w.heap.size≤v1.heap.size:=HT1.out.size
 rcases bind_some hy with ⟨⟨c,ln2⟩,h1,rfl⟩ | ⟨x1,r1,h1,h2⟩
 ·have HM:=Lib.hid h1
  clear h1 hy
  go_wp2_with fail
  go_region_law (first
   | (go_simp;go_at_call 105;refine (R.block _ _ _ HSd.out HM.out).mono ?_;rintro e w7 ⟨rfl,ht7⟩;refine goneAny w7 ⟨rfl,PostW.err rfl (Turn2.r HTd.out ht7)⟩ ?_)
   | (go_simp;go_at_call 105;refine (R.block _ _ _ (HS1.out.alloc (.cells #[.int .i64 0,.string ⟨#[]⟩,.int .i64 0,.slice none 0 0,.int .i64 0] 29)).dr HM.out).mono ?_;rintro e w7 ⟨rfl,ht7⟩;refine goneAny w7 ⟨rfl,PostW.err rfl (Turn2.r (Turn2.dr (Turn2.al HT1.out (.cells #[.int .i64 0,.string ⟨#[]⟩,.int .i64 0,.slice none 0 0,.int .i64 0] 29))) ht7)⟩ ?_))
  all_goals trivial
 have HM:=Lib.hid h1
 clear h1 hy
 go_wp2_with fail
 apply wp_mid5 (R:=fun A7 c7 m7 g cap w9=>AppP rb last nb w r1 (.int .i64 38) (.string ⟨#[]⟩) (.int .i64 0) (.slice (some ⟨g,0,none⟩) 1 cap) (.int .i64 ln) ([]++[x1]) w9)
 case h =>
  go_region_law (first
   | (refine step_append_row (v := .slice none 0 0) (acc:=[]) (B:=w.heap.size) (by rfl) _ _ (by rfl) (by rfl) (RowT.nil) zeroL ⟨w7.heap.size,0,none⟩ 1 1 (by rfl) (by rfl) (zero_news (by exact (Blk.new w7 29 #[.int .i64 0,.string ⟨#[]⟩,.int .i64 0,.slice none 0 0,.int .i64 0]))) zero_ok (by decide) (by simp) (by first | omega | (simp;omega)) ?_;intro g cap w8 hrow8 hgrow8 hat8 hlt8;have hrow8:RowT w.heap.size w8 ([]++[zeroT]) (.slice (some ⟨g,0,none⟩) 1 cap):=hrow8;have hn8:=(hn7.alloc (.cells #[.int .i64 0,.string ⟨#[]⟩,.int .i64 0,.slice none 0 0,.int .i64 0] 29)).grown hgrow8 (by simp [Value.ownBlock]);have hgn:g≠nb:=(by rcases hat8 with h | h;(exact absurd h (by simp [Value.ownBlock]));(first | omega | (simp at h;omega)));have hng:nb≠g:=Ne.symm hgn;have hgw:w.heap.size≤g:=(by rcases hat8 with h | h;(exact absurd h (by simp [Value.ownBlock]));(first | omega | (simp at h;omega)));have hs8:=(HS7.out.alloc (.cells #[.int .i64 0,.string ⟨#[]⟩,.int .i64 0,.slice none 0 0,.int .i64 0] 29)).grown hgrow8 (by simp [Value.ownBlock]);have ht8:=Turn2.grown (Turn2.al HT7.out (.cells #[.int .i64 0,.string ⟨#[]⟩,.int .i64 0,.slice none 0 0,.int .i64 0] 29)) hgrow8 (by simp [Value.ownBlock]);have htz8:=TrU.app (g:=g) (B:=w.heap.size) (HTX7.out.al (.cells #[.int .i64 0,.string ⟨#[]⟩,.int .i64 0,.slice none 0 0,.int .i64 0] 29)) hgrow8 (by simp [Value.ownBlock]) hat8 (by omega);obtain ⟨s8,⟨k0,k1,k2,k3,k4⟩,j0,j1,j2,j3,j4⟩:=RowT.last (acc:=[]) (n:=1) (o:=0) hrow8 rfl;obtain ⟨⟨s0,s1,s2,s3,s4⟩,r0,r1,r2,r3,r4⟩:=hn8.five)
   | (refine step_append_row (v := .slice none 0 0) (acc:=[]) (B:=w.heap.size) (by rfl) _ _ (by rfl) (by rfl) (RowT.nil) zeroL ⟨v1.heap.size,0,none⟩ 1 1 (by rfl) (by rfl) (zero_news (by exact hzb7.out)) zero_ok (by decide) (by simp) (by first | omega | (simp;omega)) ?_;intro g cap w8 hrow8 hgrow8 hat8 hlt8;have hrow8:RowT w.heap.size w8 ([]++[zeroT]) (.slice (some ⟨g,0,none⟩) 1 cap):=hrow8;have hn8:=hn7.grown hgrow8 (by simp [Value.ownBlock]);have hgn:g≠nb:=(by rcases hat8 with h | h;(exact absurd h (by simp [Value.ownBlock]));(first | omega | (simp at h;omega)));have hng:nb≠g:=Ne.symm hgn;have hgw:w.heap.size≤g:=(by rcases hat8 with h | h;(exact absurd h (by simp [Value.ownBlock]));(first | omega | (simp at h;omega)));have hs8:=HS7.out.grown hgrow8 (by simp [Value.ownBlock]);have ht8:=Turn2.grown (HT7.out) hgrow8 (by simp [Value.ownBlock]);have htz8:=TrU.app (g:=g) (B:=w.heap.size) (HTX7.out) hgrow8 (by simp [Value.ownBlock]) hat8 (by omega);obtain ⟨s8,⟨k0,k1,k2,k3,k4⟩,j0,j1,j2,j3,j4⟩:=RowT.last (acc:=[]) (n:=1) (o:=0) hrow8 rfl;obtain ⟨⟨s0,s1,s2,s3,s4⟩,r0,r1,r2,r3,r4⟩:=hn8.five)
   | (go_simp;go_at_call 105;refine (R.block _ _ _ HSd.out HM.out).mono ?_;rintro e w7 ⟨⟨v7,rfl,hok7,d7,sl7,rfl,htr7⟩,hs7,ht7⟩;have hn7:=hn1d.tr ht7 hnr;have HT7:=Lib.hid (Turn2.r HTd.out ht7);have HTX7:=Lib.hid (htr7.weaken (B':=v1.heap.size) (Nat.le_refl _));have hwz7:v1.heap.size≤w7.heap.size:=ht7.size;obtain ⟨A7,c7,rfl⟩:=htr7.form;have HOK7:=Lib.hid hok7;have HS7:=Lib.hid hs7;obtain ⟨⟨t0,t1,t2,t3,t4⟩,u0,u1,u2,u3,u4⟩:=hn7.five;have hz7:=hn7.lt)
   | (go_simp;go_at_call 105;refine (R.block _ _ _ (HS1.out.alloc (.cells #[.int .i64 0,.string ⟨#[]⟩,.int .i64 0,.slice none 0 0,.int .i64 0] 29)).dr HM.out).mono ?_;rintro e w7 ⟨⟨v7,rfl,hok7,d7,sl7,rfl,htr7⟩,hs7,ht7⟩;have hn7:=(HN1.out.alloc (.cells #[.int .i64 0,.string ⟨#[]⟩,.int .i64 0,.slice none 0 0,.int .i64 0] 29)).dr.tr ht7 hnr;have HT7:=Lib.hid (Turn2.r (Turn2.dr (Turn2.al HT1.out (.cells #[.int .i64 0,.string ⟨#[]⟩,.int .i64 0,.slice none 0 0,.int .i64 0] 29))) ht7);have HTX7:=Lib.hid (htr7.weaken (B':=v1.heap.size) (by show v1.heap.size≤(v1.alloc _).heap.size;rw [World.size_alloc];omega));have hwz7:v1.heap.size<w7.heap.size:=(by have h9:(v1.alloc (.cells #[.int .i64 0,.string ⟨#[]⟩,.int .i64 0,.slice none 0 0,.int .i64 0] 29)).heap.size≤w7.heap.size:=ht7.size;rw [World.size_alloc] at h9;omega);have hzb7:=Lib.hid ((Blk.new v1 29 #[.int .i64 0,.string ⟨#[]⟩,.int .i64 0,.slice none 0 0,.int .i64 0]).dr.tr ht7 (by omega));obtain ⟨A7,c7,rfl⟩:=htr7.form;have HOK7:=Lib.hid hok7;have HS7:=Lib.hid hs7;obtain ⟨⟨t0,t1,t2,t3,t4⟩,u0,u1,u2,u3,u4⟩:=hn7.five;have hz7:=hn7.lt))
  all_goals
   first
    | (have hq7:=hzb7
       obtain ⟨m7,hm7⟩ : ∃ m,m=v1.heap.size:=⟨_,rfl⟩
       rw [← hm7]
       refine ⟨A7,c7,m7,g,cap,rfl,?_⟩)
    | (obtain ⟨m7,hm7⟩ : ∃ m,m=w7.heap.size:=⟨_,rfl⟩
       rw [← hm7]
       refine ⟨A7,c7,m7,g,cap,rfl,?_⟩)
   first
    | ((with_reducible refine app_a hrb hnl hgw hs8 ht8 hn8 hrow8 (acc:=[]) (o:=0) ?_ rfl HOK7.out htz8 ?_ ?_ ?_ ?_) <;> rfl)
    | ((with_reducible refine app_b hrb hnl hgw hs8 ht8 hn8 hrow8 (acc:=[]) (o:=0) ?_ rfl HOK7.out htz8 ?_ ?_ ?_ ?_) <;> rfl)
 intro A72 c72 m72 g2 cap2 w22 hap
 have hs:=hap.st
 have ht:=hap.tn
 have hb:=hap.blk
 have hr:RowT w.heap.size w22 [x1] _:=hap.row
 clear hap
 have HS2:=Lib.hid hs
 have HT2:=Lib.hid ht
 have hn2:=hb
 have HR2:=Lib.hid hr
 clear hs ht hb hr
 clear a0 a1 a2 a3 a4 f0 f1 f2 f3 f4 hn1d HSd HTd
 have h2:((mustF last [99,97,116,99,104] r1).bind fun _ r2=>mustF last [40] r2).bind (fun _ r3=>(nameF last r3).bind fun y r4=>(mustF last [41] r4).bind fun _ r5=>((fns last f).block r5).bind fun z q => .ok (nd 38 y [x1,z] ln) q)=some y:=by rw [← bind2];exact h2
 rcases bind_some h2 with ⟨⟨c,ln2⟩,h1,rfl⟩ | ⟨_,r3,h1,h3⟩
 ·have HM:=Lib.hid h1
  clear h1 h2
  go_wp2_with fail
  refine (must2 HS2.out ⟨#[99,97,116,99,104]⟩ ⟨#[40]⟩ _ ?hx15 _ HM.out).mono ?_
  case hx15=>first | rfl | simp
  rintro e w31 ⟨rfl,ht⟩
  exact ⟨rfl,PostW.err rfl (Turn2.r HT2.out ht)⟩
 have HM:=Lib.hid h1
 clear h1 h2
 go_wp2_with fail
 refine (must2 HS2.out ⟨#[99,97,116,99,104]⟩ ⟨#[40]⟩ _ ?hx16 _ HM.out).mono ?_
 case hx16=>first | rfl | simp
 rintro e w31 ⟨⟨v,rfl,-⟩,hs,ht⟩
 have HS3:=Lib.hid hs
 have HT3:=Lib.hid (Turn2.r HT2.out ht)
 have hn3:=hn2.tr ht hnr
 have HR3:=Lib.hid (HR2.out.tr ht (by omega))
 clear hs ht hn2
 have HSN:=Lib.hid HS3.out
 rcases bind_some h3 with ⟨⟨c,ln2⟩,h1,rfl⟩ | ⟨s1,r4,h1,h4⟩
 ·have HM:=Lib.hid h1
  clear h1 h3
  go_wp2_with fail
  refine (name_calls _ rb last _ HS3.out _ HM.out).mono ?_
  rintro e w32 ⟨rfl,ht⟩
  exact ⟨rfl,PostW.err rfl (Turn2.r HT3.out ht)⟩
 have HM:=Lib.hid h1
 clear h1 h3
 go_wp2_with fail
 refine (name_calls _ rb last _ HS3.out _ HM.out).mono ?_
 rintro e w32 ⟨⟨v,rfl,hv⟩,hs,ht⟩
 have hv:v = .string ⟨s1.toArray⟩:=hv
 subst hv
 have HNL:=Lib.hid (name_len HSN.out HM.out)
 have HS4:=Lib.hid hs
 have HT4:=Lib.hid (Turn2.r HT3.out ht)
 have hn4:=hn3.tr ht hnr
 have HR4:=Lib.hid (HR3.out.tr ht (by omega))
 clear hs ht hn3
 have hs:=HS4.out.set' (g:=nb) (j:=1) hrb (.string ⟨s1.toArray⟩)
 have ht:=Turn2.set HT4.out 1 (.string ⟨s1.toArray⟩)
 have hb:Blk (w32.setCell ⟨nb,1,none⟩ (.string ⟨s1.toArray⟩)) nb 29 #[.int .i64 38,.string ⟨s1.toArray⟩,.int .i64 0,.slice (some ⟨g2,0,none⟩) 1 cap2,.int .i64 ln]:=by simpa using hn4.set_ 1 (.string ⟨s1.toArray⟩)
 have hr:=HR4.out.far (p:=⟨nb,1,none⟩) hnl (.string ⟨s1.toArray⟩)
 have hrest : ∃ v5,v5=w32.setCell ⟨nb,1,none⟩ (.string ⟨s1.toArray⟩):=⟨_,rfl⟩
 obtain ⟨⟨a0,a1,a2,a3,a4⟩,f0,f1,f2,f3,f4⟩:=hn4.five
 clear hrest
 go_wp2_with fail
 clear a0 a1 a2 a3 a4 f0 f1 f2 f3 f4 hn4
 have hsz5:(w32.setCell ⟨nb,1,none⟩ (.string ⟨s1.toArray⟩)).heap.size=w32.heap.size:=by simp only [World.size_setCell]
 have HH:=Lib.hid (And.intro hs (And.intro ht (And.intro hb hr)))
 clear hs ht hb hr
 have HH:=HH.out
 generalize w32.setCell ⟨nb,1,none⟩ (.string ⟨s1.toArray⟩)=v5 at HH hsz5 ⊢
 have HSZ5:=Lib.hid hsz5
 clear hsz5
 obtain ⟨hs,ht,hb,hr⟩:=HH
 have HS5:=Lib.hid hs
 have HT5:=Lib.hid ht
 have hn5:=hb
 have HR5:=Lib.hid hr
 clear hs ht hb hr
 rcases bind_some h4 with ⟨⟨c,ln2⟩,h1,rfl⟩ | ⟨_,r5,h1,h5⟩
 ·have HM:=Lib.hid h1
  clear h1 h4
  go_wp2_with fail
  refine (must1 HS5.out ⟨#[41]⟩ _ ?hx19 _ HM.out).mono ?_
  case hx19=>first | rfl | (have:=HSZ5.out;omega) | simp
  rintro e w33 ⟨rfl,ht⟩
  exact ⟨rfl,PostW.err rfl (Turn2.r HT5.out ht)⟩
 have HM:=Lib.hid h1
 clear h1 h4
 go_wp2_with fail
 refine (must1 HS5.out ⟨#[41]⟩ _ ?hx20 _ HM.out).mono ?_
 case hx20=>first | rfl | (have:=HSZ5.out;omega) | simp
 rintro e w33 ⟨⟨v,rfl,-⟩,hs,ht⟩
 have HS6:=Lib.hid hs
 have HT6:=Lib.hid (Turn2.r HT5.out ht)
 have hn6:=hn5.tr ht hnr
 have HR6:=Lib.hid (HR5.out.tr ht (by omega))
 clear hs ht hn5
 have hn6d:=hn6.dr
 have hzn:nb<w33.heap.size:=hn6.lt
 obtain ⟨⟨a0,a1,a2,a3,a4⟩,f0,f1,f2,f3,f4⟩:=hn6.five
 have HN6:=Lib.hid hn6
 clear hn6
 have HSd:=Lib.hid HS6.out.dr
 have HTd:=Lib.hid (Turn2.dr HT6.out)
 have HRd:=Lib.hid HR6.out.dr
 have HOWN:=Lib.hid HR6.out.own
 have hwz:w.heap.size≤w33.heap.size:=HT6.out.size
 rcases bind_some h5 with ⟨⟨c,ln2⟩,h1,rfl⟩ | ⟨x2,r6,h1,h6⟩
 ·have HM:=Lib.hid h1
  clear h1 h5
  go_wp2_with fail
  go_region_law (first
   | (go_simp;go_at_call 105;refine (R.block _ _ _ HSd.out HM.out).mono ?_;rintro e w7 ⟨rfl,ht7⟩;refine goneAny w7 ⟨rfl,PostW.err rfl (Turn2.r HTd.out ht7)⟩ ?_)
   | (go_simp;go_at_call 105;refine (R.block _ _ _ (HS6.out.alloc (.cells #[.int .i64 0,.string ⟨#[]⟩,.int .i64 0,.slice none 0 0,.int .i64 0] 29)).dr HM.out).mono ?_;rintro e w7 ⟨rfl,ht7⟩;refine goneAny w7 ⟨rfl,PostW.err rfl (Turn2.r (Turn2.dr (Turn2.al HT6.out (.cells #[.int .i64 0,.string ⟨#[]⟩,.int .i64 0,.slice none 0 0,.int .i64 0] 29))) ht7)⟩ ?_))
  all_goals trivial
 have HM:=Lib.hid h1
 clear h1 h5
 go_wp2_with fail
 apply wp_mid5 (R:=fun A7 c7 m7 g cap w9=>AppP rb last nb w r6 (.int .i64 38) (.string ⟨s1.toArray⟩) (.int .i64 0) (.slice (some ⟨g,0,none⟩) 2 cap) (.int .i64 ln) ([x1]++[x2]) w9)
 case h =>
  go_region_law (first
   | (refine step_append_row (v := .slice (some ⟨g2,0,none⟩) 1 cap2) (acc:=[x1]) (B:=w.heap.size) (by rfl) _ _ (by rfl) (by rfl) (HR7.out.al (.cells #[.int .i64 0,.string ⟨#[]⟩,.int .i64 0,.slice none 0 0,.int .i64 0] 29)) zeroL ⟨w7.heap.size,0,none⟩ 1 1 (by rfl) (by rfl) (zero_news (by exact (Blk.new w7 29 #[.int .i64 0,.string ⟨#[]⟩,.int .i64 0,.slice none 0 0,.int .i64 0]))) zero_ok (by decide) (by simp) (by first | omega | (simp;omega)) ?_;intro g cap w8 hrow8 hgrow8 hat8 hlt8;have hrow8:RowT w.heap.size w8 ([x1]++[zeroT]) (.slice (some ⟨g,0,none⟩) 2 cap):=hrow8;have hn8:=(hn7.alloc (.cells #[.int .i64 0,.string ⟨#[]⟩,.int .i64 0,.slice none 0 0,.int .i64 0] 29)).grown hgrow8 (fun e=>by have:=HOWN.out nb e.symm;omega);have hgn:g≠nb:=(by rcases hat8 with h | h;(have:=HOWN.out g h;omega);(first | omega | (simp at h;omega)));have hng:nb≠g:=Ne.symm hgn;have hgw:w.heap.size≤g:=(by rcases hat8 with h | h;(have:=HOWN.out g h;omega);(first | omega | (simp at h;omega)));have hs8:=(HS7.out.alloc (.cells #[.int .i64 0,.string ⟨#[]⟩,.int .i64 0,.slice none 0 0,.int .i64 0] 29)).grown hgrow8 (fun k hk=>by have:=HOWN.out k hk;omega);have ht8:=Turn2.grown (Turn2.al HT7.out (.cells #[.int .i64 0,.string ⟨#[]⟩,.int .i64 0,.slice none 0 0,.int .i64 0] 29)) hgrow8 (fun k hk=>by have:=HOWN.out k hk;omega);have htz8:=TrU.app (g:=g) (B:=w.heap.size) (HTX7.out.al (.cells #[.int .i64 0,.string ⟨#[]⟩,.int .i64 0,.slice none 0 0,.int .i64 0] 29)) hgrow8 (fun k hk=>by have:=HOWN.out k hk;omega) hat8 (by omega);obtain ⟨s8,⟨k0,k1,k2,k3,k4⟩,j0,j1,j2,j3,j4⟩:=RowT.last (acc:=[x1]) (n:=2) (o:=5) hrow8 rfl;obtain ⟨⟨s0,s1,s2,s3,s4⟩,r0,r1,r2,r3,r4⟩:=hn8.five)
   | (refine step_append_row (v := .slice (some ⟨g2,0,none⟩) 1 cap2) (acc:=[x1]) (B:=w.heap.size) (by rfl) _ _ (by rfl) (by rfl) HR7.out zeroL ⟨w33.heap.size,0,none⟩ 1 1 (by rfl) (by rfl) (zero_news (by exact hzb7.out)) zero_ok (by decide) (by simp) (by first | omega | (simp;omega)) ?_;intro g cap w8 hrow8 hgrow8 hat8 hlt8;have hrow8:RowT w.heap.size w8 ([x1]++[zeroT]) (.slice (some ⟨g,0,none⟩) 2 cap):=hrow8;have hn8:=hn7.grown hgrow8 (fun e=>by have:=HOWN.out nb e.symm;omega);have hgn:g≠nb:=(by rcases hat8 with h | h;(have:=HOWN.out g h;omega);(first | omega | (simp at h;omega)));have hng:nb≠g:=Ne.symm hgn;have hgw:w.heap.size≤g:=(by rcases hat8 with h | h;(have:=HOWN.out g h;omega);(first | omega | (simp at h;omega)));have hs8:=HS7.out.grown hgrow8 (fun k hk=>by have:=HOWN.out k hk;omega);have ht8:=Turn2.grown (HT7.out) hgrow8 (fun k hk=>by have:=HOWN.out k hk;omega);have htz8:=TrU.app (g:=g) (B:=w.heap.size) (HTX7.out) hgrow8 (fun k hk=>by have:=HOWN.out k hk;omega) hat8 (by omega);obtain ⟨s8,⟨k0,k1,k2,k3,k4⟩,j0,j1,j2,j3,j4⟩:=RowT.last (acc:=[x1]) (n:=2) (o:=5) hrow8 rfl;obtain ⟨⟨s0,s1,s2,s3,s4⟩,r0,r1,r2,r3,r4⟩:=hn8.five)
   | (go_simp;go_at_call 105;refine (R.block _ _ _ HSd.out HM.out).mono ?_;rintro e w7 ⟨⟨v7,rfl,hok7,d7,sl7,rfl,htr7⟩,hs7,ht7⟩;have hn7:=hn6d.tr ht7 hnr;have HT7:=Lib.hid (Turn2.r HTd.out ht7);have HTX7:=Lib.hid (htr7.weaken (B':=w33.heap.size) (Nat.le_refl _));have hwz7:w33.heap.size≤w7.heap.size:=ht7.size;obtain ⟨A7,c7,rfl⟩:=htr7.form;have HOK7:=Lib.hid hok7;have HS7:=Lib.hid hs7;obtain ⟨⟨t0,t1,t2,t3,t4⟩,u0,u1,u2,u3,u4⟩:=hn7.five;have hz7:=hn7.lt;have HR7:=Lib.hid (HRd.out.tr ht7 (by omega)))
   | (go_simp;go_at_call 105;refine (R.block _ _ _ (HS6.out.alloc (.cells #[.int .i64 0,.string ⟨#[]⟩,.int .i64 0,.slice none 0 0,.int .i64 0] 29)).dr HM.out).mono ?_;rintro e w7 ⟨⟨v7,rfl,hok7,d7,sl7,rfl,htr7⟩,hs7,ht7⟩;have hn7:=(HN6.out.alloc (.cells #[.int .i64 0,.string ⟨#[]⟩,.int .i64 0,.slice none 0 0,.int .i64 0] 29)).dr.tr ht7 hnr;have HT7:=Lib.hid (Turn2.r (Turn2.dr (Turn2.al HT6.out (.cells #[.int .i64 0,.string ⟨#[]⟩,.int .i64 0,.slice none 0 0,.int .i64 0] 29))) ht7);have HTX7:=Lib.hid (htr7.weaken (B':=w33.heap.size) (by show w33.heap.size≤(w33.alloc _).heap.size;rw [World.size_alloc];omega));have hwz7:w33.heap.size<w7.heap.size:=(by have h9:(w33.alloc (.cells #[.int .i64 0,.string ⟨#[]⟩,.int .i64 0,.slice none 0 0,.int .i64 0] 29)).heap.size≤w7.heap.size:=ht7.size;rw [World.size_alloc] at h9;omega);have hzb7:=Lib.hid ((Blk.new w33 29 #[.int .i64 0,.string ⟨#[]⟩,.int .i64 0,.slice none 0 0,.int .i64 0]).dr.tr ht7 (by omega));obtain ⟨A7,c7,rfl⟩:=htr7.form;have HOK7:=Lib.hid hok7;have HS7:=Lib.hid hs7;obtain ⟨⟨t0,t1,t2,t3,t4⟩,u0,u1,u2,u3,u4⟩:=hn7.five;have hz7:=hn7.lt;have HR7:=Lib.hid ((HR6.out.al (.cells #[.int .i64 0,.string ⟨#[]⟩,.int .i64 0,.slice none 0 0,.int .i64 0] 29)).dr.tr ht7 (by omega))))
  all_goals
   first
    | (have hq7:=hzb7
       obtain ⟨m7,hm7⟩ : ∃ m,m=w33.heap.size:=⟨_,rfl⟩
       rw [← hm7]
       refine ⟨A7,c7,m7,g,cap,rfl,?_⟩)
    | (obtain ⟨m7,hm7⟩ : ∃ m,m=w7.heap.size:=⟨_,rfl⟩
       rw [← hm7]
       refine ⟨A7,c7,m7,g,cap,rfl,?_⟩)
   first
    | ((with_reducible refine app_a hrb hnl hgw hs8 ht8 hn8 hrow8 (acc:=[x1]) (o:=5) ?_ rfl HOK7.out htz8 ?_ ?_ ?_ ?_) <;> rfl)
    | ((with_reducible refine app_b hrb hnl hgw hs8 ht8 hn8 hrow8 (acc:=[x1]) (o:=5) ?_ rfl HOK7.out htz8 ?_ ?_ ?_ ?_) <;> rfl)
 intro A77 c77 m77 g7 cap7 w27 hap
 have hs:=hap.st
 have ht:=hap.tn
 have hb:=hap.blk
 have hr:RowT w.heap.size w27 [x1,x2] _:=hap.row
 clear hap
 have HS7:=Lib.hid hs
 have HT7:=Lib.hid ht
 have hn7:=hb
 have HR7:=Lib.hid hr
 clear hs ht hb hr
 clear a0 a1 a2 a3 a4 f0 f1 f2 f3 f4 hn6d HSd HTd HRd HOWN
 obtain rfl:=some_ok h6
 clear h6
 go_wp2
 go_end0
 exact PostW.ok HS7.out HT7.out (nd_ok HNL.out (by decide)) hn7 (HR7.out.treesU (by simp))
end
end Go.Proofs.YtjjdmiaonkailaaGreatDoor
