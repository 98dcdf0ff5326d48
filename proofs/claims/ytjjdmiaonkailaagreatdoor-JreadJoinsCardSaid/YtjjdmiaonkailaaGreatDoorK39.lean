/- Walks and plain laws, packed: RdMa. -/
import Derived.Test.YtjjdmiaonkailaaGreatDoorK21
import Derived.Deep.RegionHeld3
import Derived.Deep.RegionWith
import Derived.Deep.AppendLies
import Derived.Deep.RegionLaw
namespace Go.Proofs.YtjjdmiaonkailaaGreatDoor
section
open Go.RowKit Go.Sort
set_option maxRecDepth 100000 in
set_option maxHeartbeats 8000000 in
theorem choice_word {rb last f:Nat} (R:AllR rb last f):WordC rb last f [105,102] 132:=by
 intro w nb ln l y hrb hn0 h hy0
 have hlt:=h.lt
 have hnl:=hn0.lt
 have hnr:nb≠rb:=by omega
 have HS0:=Lib.hid h
 have HT0:Hid (Turn2 rb nb w w):=Lib.hid (Turn.refl _ _)
 clear h
 unfold wordS at hy0
 go_enter Tryz.func132,Tryz.ntmps132
 have hy:(headS last (fns last f) l).bind (fun x r=>((fns last f).within r).bind fun y r2=>if atF [[101,108,115,101]] r2 then ((fns last f).within r2.tail).bind fun z q => .ok (nd 33 [] [x,y,z] ln) q else .ok (nd 33 [] [x,y] ln) r2)=some y:=hy0
 clear hy0
 have hs:=HS0.out.set' (g:=nb) (j:=0) hrb (.int .i64 33)
 have ht:=Turn2.set HT0.out 0 (.int .i64 33)
 have hb:Blk (w.setCell ⟨nb,0,none⟩ (.int .i64 33)) nb 29 #[.int .i64 33,.string ⟨#[]⟩,.int .i64 0,.slice none 0 0,.int .i64 ln]:=by simpa using hn0.set_ 0 (.int .i64 33)
 have hrest : ∃ v1,v1=w.setCell ⟨nb,0,none⟩ (.int .i64 33):=⟨_,rfl⟩
 obtain ⟨⟨a0,a1,a2,a3,a4⟩,f0,f1,f2,f3,f4⟩:=hn0.five
 clear hrest
 go_wp2_with fail
 clear a0 a1 a2 a3 a4 f0 f1 f2 f3 f4 hn0
 have hsz1:(w.setCell ⟨nb,0,none⟩ (.int .i64 33)).heap.size=w.heap.size:=by simp only [World.size_setCell]
 have HH:=Lib.hid (And.intro hs (And.intro ht hb))
 clear hs ht hb
 have HH:=HH.out
 generalize w.setCell ⟨nb,0,none⟩ (.int .i64 33)=v1 at HH hsz1 ⊢
 have HSZ1:=Lib.hid hsz1
 clear hsz1
 obtain ⟨hs,ht,hb⟩:=HH
 have HS1:=Lib.hid hs
 have HT1:=Lib.hid ht
 have hn1:=hb
 clear hs ht hb
 have hn1d:=hn1.dr
 have hzn:nb<v1.heap.size:=hn1.lt
 obtain ⟨⟨a0,a1,a2,a3,a4⟩,f0,f1,f2,f3,f4⟩:=hn1.five
 have HN1:=Lib.hid hn1
 clear hn1
 have HSd:=Lib.hid HS1.out.dr
 have HTd:=Lib.hid (Turn2.dr HT1.out)
 have hwz:w.heap.size≤v1.heap.size:=HT1.out.size
 rcases bind_some hy with ⟨⟨c,ln2⟩,h1,rfl⟩ | ⟨x1,r2,h1,h2⟩
 ·have HM:=Lib.hid h1
  clear h1 hy
  go_wp2_with fail
  go_region_law (first
   | (go_simp;go_at_call 159;refine (head_step R _ _ _ HSd.out HM.out).mono ?_;rintro e w7 ⟨rfl,ht7⟩;refine goneAny w7 ⟨rfl,PostW.err rfl (Turn2.r HTd.out ht7)⟩ ?_)
   | (go_simp;go_at_call 159;refine (head_step R _ _ _ (HS1.out.alloc (.cells #[.int .i64 0,.string ⟨#[]⟩,.int .i64 0,.slice none 0 0,.int .i64 0] 29)).dr HM.out).mono ?_;rintro e w7 ⟨rfl,ht7⟩;refine goneAny w7 ⟨rfl,PostW.err rfl (Turn2.r (Turn2.dr (Turn2.al HT1.out (.cells #[.int .i64 0,.string ⟨#[]⟩,.int .i64 0,.slice none 0 0,.int .i64 0] 29))) ht7)⟩ ?_))
  all_goals trivial
 have HM:=Lib.hid h1
 clear h1 hy
 go_wp2_with fail
 apply wp_mid5 (R:=fun A7 c7 m7 g cap w9=>AppP rb last nb w r2 (.int .i64 33) (.string ⟨#[]⟩) (.int .i64 0) (.slice (some ⟨g,0,none⟩) 1 cap) (.int .i64 ln) ([]++[x1]) w9)
 case h =>
  go_region_law (first
   | (refine step_append_row (v := .slice none 0 0) (acc:=[]) (B:=w.heap.size) (by rfl) _ _ (by rfl) (by rfl) (RowT.nil) zeroL ⟨w7.heap.size,0,none⟩ 1 1 (by rfl) (by rfl) (zero_news (by exact (Blk.new w7 29 #[.int .i64 0,.string ⟨#[]⟩,.int .i64 0,.slice none 0 0,.int .i64 0]))) zero_ok (by decide) (by simp) (by first | omega | (simp;omega)) ?_;intro g cap w8 hrow8 hgrow8 hat8 hlt8;have hrow8:RowT w.heap.size w8 ([]++[zeroT]) (.slice (some ⟨g,0,none⟩) 1 cap):=hrow8;have hn8:=(hn7.alloc (.cells #[.int .i64 0,.string ⟨#[]⟩,.int .i64 0,.slice none 0 0,.int .i64 0] 29)).grown hgrow8 (by simp [Value.ownBlock]);have hgn:g≠nb:=(by rcases hat8 with h | h;(exact absurd h (by simp [Value.ownBlock]));(first | omega | (simp at h;omega)));have hng:nb≠g:=Ne.symm hgn;have hgw:w.heap.size≤g:=(by rcases hat8 with h | h;(exact absurd h (by simp [Value.ownBlock]));(first | omega | (simp at h;omega)));have hs8:=(HS7.out.alloc (.cells #[.int .i64 0,.string ⟨#[]⟩,.int .i64 0,.slice none 0 0,.int .i64 0] 29)).grown hgrow8 (by simp [Value.ownBlock]);have ht8:=Turn2.grown (Turn2.al HT7.out (.cells #[.int .i64 0,.string ⟨#[]⟩,.int .i64 0,.slice none 0 0,.int .i64 0] 29)) hgrow8 (by simp [Value.ownBlock]);have htz8:=TrU.app (g:=g) (B:=w.heap.size) (HTX7.out.al (.cells #[.int .i64 0,.string ⟨#[]⟩,.int .i64 0,.slice none 0 0,.int .i64 0] 29)) hgrow8 (by simp [Value.ownBlock]) hat8 (by omega);obtain ⟨s8,⟨k0,k1,k2,k3,k4⟩,j0,j1,j2,j3,j4⟩:=RowT.last (acc:=[]) (n:=1) (o:=0) hrow8 rfl;obtain ⟨⟨s0,s1,s2,s3,s4⟩,r0,r1,r2,r3,r4⟩:=hn8.five)
   | (refine step_append_row (v := .slice none 0 0) (acc:=[]) (B:=w.heap.size) (by rfl) _ _ (by rfl) (by rfl) (RowT.nil) zeroL ⟨v1.heap.size,0,none⟩ 1 1 (by rfl) (by rfl) (zero_news (by exact hzb7.out)) zero_ok (by decide) (by simp) (by first | omega | (simp;omega)) ?_;intro g cap w8 hrow8 hgrow8 hat8 hlt8;have hrow8:RowT w.heap.size w8 ([]++[zeroT]) (.slice (some ⟨g,0,none⟩) 1 cap):=hrow8;have hn8:=hn7.grown hgrow8 (by simp [Value.ownBlock]);have hgn:g≠nb:=(by rcases hat8 with h | h;(exact absurd h (by simp [Value.ownBlock]));(first | omega | (simp at h;omega)));have hng:nb≠g:=Ne.symm hgn;have hgw:w.heap.size≤g:=(by rcases hat8 with h | h;(exact absurd h (by simp [Value.ownBlock]));(first | omega | (simp at h;omega)));have hs8:=HS7.out.grown hgrow8 (by simp [Value.ownBlock]);have ht8:=Turn2.grown (HT7.out) hgrow8 (by simp [Value.ownBlock]);have htz8:=TrU.app (g:=g) (B:=w.heap.size) (HTX7.out) hgrow8 (by simp [Value.ownBlock]) hat8 (by omega);obtain ⟨s8,⟨k0,k1,k2,k3,k4⟩,j0,j1,j2,j3,j4⟩:=RowT.last (acc:=[]) (n:=1) (o:=0) hrow8 rfl;obtain ⟨⟨s0,s1,s2,s3,s4⟩,r0,r1,r2,r3,r4⟩:=hn8.five)
   | (go_simp;go_at_call 159;refine (head_step R _ _ _ HSd.out HM.out).mono ?_;rintro e w7 ⟨⟨v7,rfl,hok7,d7,sl7,rfl,htr7⟩,hs7,ht7⟩;have hn7:=hn1d.tr ht7 hnr;have HT7:=Lib.hid (Turn2.r HTd.out ht7);have HTX7:=Lib.hid (htr7.weaken (B':=v1.heap.size) (Nat.le_refl _));have hwz7:v1.heap.size≤w7.heap.size:=ht7.size;obtain ⟨A7,c7,rfl⟩:=htr7.form;have HOK7:=Lib.hid hok7;have HS7:=Lib.hid hs7;obtain ⟨⟨t0,t1,t2,t3,t4⟩,u0,u1,u2,u3,u4⟩:=hn7.five;have hz7:=hn7.lt)
   | (go_simp;go_at_call 159;refine (head_step R _ _ _ (HS1.out.alloc (.cells #[.int .i64 0,.string ⟨#[]⟩,.int .i64 0,.slice none 0 0,.int .i64 0] 29)).dr HM.out).mono ?_;rintro e w7 ⟨⟨v7,rfl,hok7,d7,sl7,rfl,htr7⟩,hs7,ht7⟩;have hn7:=(HN1.out.alloc (.cells #[.int .i64 0,.string ⟨#[]⟩,.int .i64 0,.slice none 0 0,.int .i64 0] 29)).dr.tr ht7 hnr;have HT7:=Lib.hid (Turn2.r (Turn2.dr (Turn2.al HT1.out (.cells #[.int .i64 0,.string ⟨#[]⟩,.int .i64 0,.slice none 0 0,.int .i64 0] 29))) ht7);have HTX7:=Lib.hid (htr7.weaken (B':=v1.heap.size) (by show v1.heap.size≤(v1.alloc _).heap.size;rw [World.size_alloc];omega));have hwz7:v1.heap.size<w7.heap.size:=(by have h9:(v1.alloc (.cells #[.int .i64 0,.string ⟨#[]⟩,.int .i64 0,.slice none 0 0,.int .i64 0] 29)).heap.size≤w7.heap.size:=ht7.size;rw [World.size_alloc] at h9;omega);have hzb7:=Lib.hid ((Blk.new v1 29 #[.int .i64 0,.string ⟨#[]⟩,.int .i64 0,.slice none 0 0,.int .i64 0]).dr.tr ht7 (by omega));obtain ⟨A7,c7,rfl⟩:=htr7.form;have HOK7:=Lib.hid hok7;have HS7:=Lib.hid hs7;obtain ⟨⟨t0,t1,t2,t3,t4⟩,u0,u1,u2,u3,u4⟩:=hn7.five;have hz7:=hn7.lt))
  all_goals
   first
    | (have hq7:=hzb7
       obtain ⟨m7,hm7⟩ : ∃ m,m=v1.heap.size:=⟨_,rfl⟩
       rw [← hm7]
       refine ⟨A7,c7,m7,g,cap,rfl,?_⟩)
    | (obtain ⟨m7,hm7⟩ : ∃ m,m=w7.heap.size:=⟨_,rfl⟩
       rw [← hm7]
       refine ⟨A7,c7,m7,g,cap,rfl,?_⟩)
   first
    | ((with_reducible refine app_a hrb hnl hgw hs8 ht8 hn8 hrow8 (acc:=[]) (o:=0) ?_ rfl HOK7.out htz8 ?_ ?_ ?_ ?_) <;> rfl)
    | ((with_reducible refine app_b hrb hnl hgw hs8 ht8 hn8 hrow8 (acc:=[]) (o:=0) ?_ rfl HOK7.out htz8 ?_ ?_ ?_ ?_) <;> rfl)
 intro A72 c72 m72 g2 cap2 w22 hap
 have hs:=hap.st
 have ht:=hap.tn
 have hb:=hap.blk
 have hr:RowT w.heap.size w22 [x1] _:=hap.row
 clear hap
 have HS2:=Lib.hid hs
 have HT2:=Lib.hid ht
 have hn2:=hb
 have HR2:=Lib.hid hr
 clear hs ht hb hr
 clear a0 a1 a2 a3 a4 f0 f1 f2 f3 f4 hn1d HSd HTd
 have hn2d:=hn2.dr
 have hzn:nb<w22.heap.size:=hn2.lt
 obtain ⟨⟨a0,a1,a2,a3,a4⟩,f0,f1,f2,f3,f4⟩:=hn2.five
 have HN2:=Lib.hid hn2
 clear hn2
 have HSd:=Lib.hid HS2.out.dr
 have HTd:=Lib.hid (Turn2.dr HT2.out)
 have HRd:=Lib.hid HR2.out.dr
 have HOWN:=Lib.hid HR2.out.own
 have hwz:w.heap.size≤w22.heap.size:=HT2.out.size
 rcases bind_some h2 with ⟨⟨c,ln2⟩,h1,rfl⟩ | ⟨x2,r3,h1,h3⟩
 ·have HM:=Lib.hid h1
  clear h1 h2
  go_wp2_with fail
  go_region_law (first
   | (go_simp;go_at_call 160;refine (R.within _ _ _ HSd.out HM.out).mono ?_;rintro e w7 ⟨rfl,ht7⟩;refine goneAny w7 ⟨rfl,PostW.err rfl (Turn2.r HTd.out ht7)⟩ ?_)
   | (go_simp;go_at_call 160;refine (R.within _ _ _ (HS2.out.alloc (.cells #[.int .i64 0,.string ⟨#[]⟩,.int .i64 0,.slice none 0 0,.int .i64 0] 29)).dr HM.out).mono ?_;rintro e w7 ⟨rfl,ht7⟩;refine goneAny w7 ⟨rfl,PostW.err rfl (Turn2.r (Turn2.dr (Turn2.al HT2.out (.cells #[.int .i64 0,.string ⟨#[]⟩,.int .i64 0,.slice none 0 0,.int .i64 0] 29))) ht7)⟩ ?_))
  all_goals trivial
 have HM:=Lib.hid h1
 clear h1 h2
 go_wp2_with fail
 apply wp_mid5 (R:=fun A7 c7 m7 g cap w9=>AppP rb last nb w r3 (.int .i64 33) (.string ⟨#[]⟩) (.int .i64 0) (.slice (some ⟨g,0,none⟩) 2 cap) (.int .i64 ln) ([x1]++[x2]) w9)
 case h =>
  go_region_law (first
   | (refine step_append_row (v := .slice (some ⟨g2,0,none⟩) 1 cap2) (acc:=[x1]) (B:=w.heap.size) (by rfl) _ _ (by rfl) (by rfl) (HR7.out.al (.cells #[.int .i64 0,.string ⟨#[]⟩,.int .i64 0,.slice none 0 0,.int .i64 0] 29)) zeroL ⟨w7.heap.size,0,none⟩ 1 1 (by rfl) (by rfl) (zero_news (by exact (Blk.new w7 29 #[.int .i64 0,.string ⟨#[]⟩,.int .i64 0,.slice none 0 0,.int .i64 0]))) zero_ok (by decide) (by simp) (by first | omega | (simp;omega)) ?_;intro g cap w8 hrow8 hgrow8 hat8 hlt8;have hrow8:RowT w.heap.size w8 ([x1]++[zeroT]) (.slice (some ⟨g,0,none⟩) 2 cap):=hrow8;have hn8:=(hn7.alloc (.cells #[.int .i64 0,.string ⟨#[]⟩,.int .i64 0,.slice none 0 0,.int .i64 0] 29)).grown hgrow8 (fun e=>by have:=HOWN.out nb e.symm;omega);have hgn:g≠nb:=(by rcases hat8 with h | h;(have:=HOWN.out g h;omega);(first | omega | (simp at h;omega)));have hng:nb≠g:=Ne.symm hgn;have hgw:w.heap.size≤g:=(by rcases hat8 with h | h;(have:=HOWN.out g h;omega);(first | omega | (simp at h;omega)));have hs8:=(HS7.out.alloc (.cells #[.int .i64 0,.string ⟨#[]⟩,.int .i64 0,.slice none 0 0,.int .i64 0] 29)).grown hgrow8 (fun k hk=>by have:=HOWN.out k hk;omega);have ht8:=Turn2.grown (Turn2.al HT7.out (.cells #[.int .i64 0,.string ⟨#[]⟩,.int .i64 0,.slice none 0 0,.int .i64 0] 29)) hgrow8 (fun k hk=>by have:=HOWN.out k hk;omega);have htz8:=TrU.app (g:=g) (B:=w.heap.size) (HTX7.out.al (.cells #[.int .i64 0,.string ⟨#[]⟩,.int .i64 0,.slice none 0 0,.int .i64 0] 29)) hgrow8 (fun k hk=>by have:=HOWN.out k hk;omega) hat8 (by omega);obtain ⟨s8,⟨k0,k1,k2,k3,k4⟩,j0,j1,j2,j3,j4⟩:=RowT.last (acc:=[x1]) (n:=2) (o:=5) hrow8 rfl;obtain ⟨⟨s0,s1,s2,s3,s4⟩,r0,r1,r2,r3,r4⟩:=hn8.five)
   | (refine step_append_row (v := .slice (some ⟨g2,0,none⟩) 1 cap2) (acc:=[x1]) (B:=w.heap.size) (by rfl) _ _ (by rfl) (by rfl) HR7.out zeroL ⟨w22.heap.size,0,none⟩ 1 1 (by rfl) (by rfl) (zero_news (by exact hzb7.out)) zero_ok (by decide) (by simp) (by first | omega | (simp;omega)) ?_;intro g cap w8 hrow8 hgrow8 hat8 hlt8;have hrow8:RowT w.heap.size w8 ([x1]++[zeroT]) (.slice (some ⟨g,0,none⟩) 2 cap):=hrow8;have hn8:=hn7.grown hgrow8 (fun e=>by have:=HOWN.out nb e.symm;omega);have hgn:g≠nb:=(by rcases hat8 with h | h;(have:=HOWN.out g h;omega);(first | omega | (simp at h;omega)));have hng:nb≠g:=Ne.symm hgn;have hgw:w.heap.size≤g:=(by rcases hat8 with h | h;(have:=HOWN.out g h;omega);(first | omega | (simp at h;omega)));have hs8:=HS7.out.grown hgrow8 (fun k hk=>by have:=HOWN.out k hk;omega);have ht8:=Turn2.grown (HT7.out) hgrow8 (fun k hk=>by have:=HOWN.out k hk;omega);have htz8:=TrU.app (g:=g) (B:=w.heap.size) (HTX7.out) hgrow8 (fun k hk=>by have:=HOWN.out k hk;omega) hat8 (by omega);obtain ⟨s8,⟨k0,k1,k2,k3,k4⟩,j0,j1,j2,j3,j4⟩:=RowT.last (acc:=[x1]) (n:=2) (o:=5) hrow8 rfl;obtain ⟨⟨s0,s1,s2,s3,s4⟩,r0,r1,r2,r3,r4⟩:=hn8.five)
   | (go_simp;go_at_call 160;refine (R.within _ _ _ HSd.out HM.out).mono ?_;rintro e w7 ⟨⟨v7,rfl,hok7,d7,sl7,rfl,htr7⟩,hs7,ht7⟩;have hn7:=hn2d.tr ht7 hnr;have HT7:=Lib.hid (Turn2.r HTd.out ht7);have HTX7:=Lib.hid (htr7.weaken (B':=w22.heap.size) (Nat.le_refl _));have hwz7:w22.heap.size≤w7.heap.size:=ht7.size;obtain ⟨A7,c7,rfl⟩:=htr7.form;have HOK7:=Lib.hid hok7;have HS7:=Lib.hid hs7;obtain ⟨⟨t0,t1,t2,t3,t4⟩,u0,u1,u2,u3,u4⟩:=hn7.five;have hz7:=hn7.lt;have HR7:=Lib.hid (HRd.out.tr ht7 (by omega)))
   | (go_simp;go_at_call 160;refine (R.within _ _ _ (HS2.out.alloc (.cells #[.int .i64 0,.string ⟨#[]⟩,.int .i64 0,.slice none 0 0,.int .i64 0] 29)).dr HM.out).mono ?_;rintro e w7 ⟨⟨v7,rfl,hok7,d7,sl7,rfl,htr7⟩,hs7,ht7⟩;have hn7:=(HN2.out.alloc (.cells #[.int .i64 0,.string ⟨#[]⟩,.int .i64 0,.slice none 0 0,.int .i64 0] 29)).dr.tr ht7 hnr;have HT7:=Lib.hid (Turn2.r (Turn2.dr (Turn2.al HT2.out (.cells #[.int .i64 0,.string ⟨#[]⟩,.int .i64 0,.slice none 0 0,.int .i64 0] 29))) ht7);have HTX7:=Lib.hid (htr7.weaken (B':=w22.heap.size) (by show w22.heap.size≤(w22.alloc _).heap.size;rw [World.size_alloc];omega));have hwz7:w22.heap.size<w7.heap.size:=(by have h9:(w22.alloc (.cells #[.int .i64 0,.string ⟨#[]⟩,.int .i64 0,.slice none 0 0,.int .i64 0] 29)).heap.size≤w7.heap.size:=ht7.size;rw [World.size_alloc] at h9;omega);have hzb7:=Lib.hid ((Blk.new w22 29 #[.int .i64 0,.string ⟨#[]⟩,.int .i64 0,.slice none 0 0,.int .i64 0]).dr.tr ht7 (by omega));obtain ⟨A7,c7,rfl⟩:=htr7.form;have HOK7:=Lib.hid hok7;have HS7:=Lib.hid hs7;obtain ⟨⟨t0,t1,t2,t3,t4⟩,u0,u1,u2,u3,u4⟩:=hn7.five;have hz7:=hn7.lt;have HR7:=Lib.hid ((HR2.out.al (.cells #[.int .i64 0,.string ⟨#[]⟩,.int .i64 0,.slice none 0 0,.int .i64 0] 29)).dr.tr ht7 (by omega))))
  all_goals
   first
    | (have hq7:=hzb7
       obtain ⟨m7,hm7⟩ : ∃ m,m=w22.heap.size:=⟨_,rfl⟩
       rw [← hm7]
       refine ⟨A7,c7,m7,g,cap,rfl,?_⟩)
    | (obtain ⟨m7,hm7⟩ : ∃ m,m=w7.heap.size:=⟨_,rfl⟩
       rw [← hm7]
       refine ⟨A7,c7,m7,g,cap,rfl,?_⟩)
   first
    | ((with_reducible refine app_a hrb hnl hgw hs8 ht8 hn8 hrow8 (acc:=[x1]) (o:=5) ?_ rfl HOK7.out htz8 ?_ ?_ ?_ ?_) <;> rfl)
    | ((with_reducible refine app_b hrb hnl hgw hs8 ht8 hn8 hrow8 (acc:=[x1]) (o:=5) ?_ rfl HOK7.out htz8 ?_ ?_ ?_ ?_) <;> rfl)
 intro A73 c73 m73 g3 cap3 w23 hap
 have hs:=hap.st
 have ht:=hap.tn
 have hb:=hap.blk
 have hr:RowT w.heap.size w23 [x1,x2] _:=hap.row
 clear hap
 have HS3:=Lib.hid hs
 have HT3:=Lib.hid ht
 have hn3:=hb
 have HR3:=Lib.hid hr
 clear hs ht hb hr
 clear a0 a1 a2 a3 a4 f0 f1 f2 f3 f4 hn2d HSd HTd HRd HOWN
 have h3:(if atF [[101,108,115,101]] r3=true then ((fns last f).within r3.tail).bind fun z q=>Rd.ok (nd 33 [] [x1,x2,z] ln) q else Rd.ok (nd 33 [] [x1,x2] ln) r3)=some y:=h3
 cases ha:atF [[101,108,115,101]] r3 with
 | false =>
  rw [ha,if_neg (by decide)] at h3
  go_wp2_with fail
  refine (takes1 HS3.out ⟨#[101,108,115,101]⟩ _ ?hx1 _ ha).mono ?_
  case hx1=>first | rfl | simp
  rintro e w51 ⟨rfl,hs,ht⟩
  have hs:St w51 rb last r3:=by simpa using hs
  have HS4:=Lib.hid hs
  have HT4:=Lib.hid (Turn2.r HT3.out ht)
  have hn4:=hn3.tr ht hnr
  have HR4:=Lib.hid (HR3.out.tr ht (by omega))
  clear hs ht hn3
  obtain rfl:=some_ok h3
  clear h3
  go_wp2
  go_end0
  exact PostW.ok HS4.out HT4.out (nd_ok (by decide) (by decide)) hn4 (HR4.out.treesU (by simp))
 | true =>
  rw [ha,if_pos rfl] at h3
  go_wp2_with fail
  refine (takes1 HS3.out ⟨#[101,108,115,101]⟩ _ ?hx2 _ ha).mono ?_
  case hx2=>first | rfl | simp
  rintro e w51 ⟨rfl,hs,ht⟩
  have hs:St w51 rb last r3.tail:=by simpa using hs
  have HS4:=Lib.hid hs
  have HT4:=Lib.hid (Turn2.r HT3.out ht)
  have hn4:=hn3.tr ht hnr
  have HR4:=Lib.hid (HR3.out.tr ht (by omega))
  clear hs ht hn3
  have hn4d:=hn4.dr
  have hzn:nb<w51.heap.size:=hn4.lt
  obtain ⟨⟨a0,a1,a2,a3,a4⟩,f0,f1,f2,f3,f4⟩:=hn4.five
  have HN4:=Lib.hid hn4
  clear hn4
  have HSd:=Lib.hid HS4.out.dr
  have HTd:=Lib.hid (Turn2.dr HT4.out)
  have HRd:=Lib.hid HR4.out.dr
  have HOWN:=Lib.hid HR4.out.own
  have hwz:w.heap.size≤w51.heap.size:=HT4.out.size
  rcases bind_some h3 with ⟨⟨c,ln2⟩,h1,rfl⟩ | ⟨x3,r4,h1,h4⟩
  ·have HM:=Lib.hid h1
   clear h1 h3
   go_wp2_with fail
   go_region_law (first
    | (go_simp;go_at_call 160;refine (R.within _ _ _ HSd.out HM.out).mono ?_;rintro e w7 ⟨rfl,ht7⟩;refine goneAny w7 ⟨rfl,PostW.err rfl (Turn2.r HTd.out ht7)⟩ ?_)
    | (go_simp;go_at_call 160;refine (R.within _ _ _ (HS4.out.alloc (.cells #[.int .i64 0,.string ⟨#[]⟩,.int .i64 0,.slice none 0 0,.int .i64 0] 29)).dr HM.out).mono ?_;rintro e w7 ⟨rfl,ht7⟩;refine goneAny w7 ⟨rfl,PostW.err rfl (Turn2.r (Turn2.dr (Turn2.al HT4.out (.cells #[.int .i64 0,.string ⟨#[]⟩,.int .i64 0,.slice none 0 0,.int .i64 0] 29))) ht7)⟩ ?_))
   all_goals trivial
  have HM:=Lib.hid h1
  clear h1 h3
  go_wp2_with fail
  apply wp_mid5 (R:=fun A7 c7 m7 g cap w9=>AppP rb last nb w r4 (.int .i64 33) (.string ⟨#[]⟩) (.int .i64 0) (.slice (some ⟨g,0,none⟩) 3 cap) (.int .i64 ln) ([x1,x2]++[x3]) w9)
  case h =>
   go_region_law (first
    | (refine step_append_row (v := .slice (some ⟨g3,0,none⟩) 2 cap3) (acc:=[x1,x2]) (B:=w.heap.size) (by rfl) _ _ (by rfl) (by rfl) (HR7.out.al (.cells #[.int .i64 0,.string ⟨#[]⟩,.int .i64 0,.slice none 0 0,.int .i64 0] 29)) zeroL ⟨w7.heap.size,0,none⟩ 1 1 (by rfl) (by rfl) (zero_news (by exact (Blk.new w7 29 #[.int .i64 0,.string ⟨#[]⟩,.int .i64 0,.slice none 0 0,.int .i64 0]))) zero_ok (by decide) (by simp) (by first | omega | (simp;omega)) ?_;intro g cap w8 hrow8 hgrow8 hat8 hlt8;have hrow8:RowT w.heap.size w8 ([x1,x2]++[zeroT]) (.slice (some ⟨g,0,none⟩) 3 cap):=hrow8;have hn8:=(hn7.alloc (.cells #[.int .i64 0,.string ⟨#[]⟩,.int .i64 0,.slice none 0 0,.int .i64 0] 29)).grown hgrow8 (fun e=>by have:=HOWN.out nb e.symm;omega);have hgn:g≠nb:=(by rcases hat8 with h | h;(have:=HOWN.out g h;omega);(first | omega | (simp at h;omega)));have hng:nb≠g:=Ne.symm hgn;have hgw:w.heap.size≤g:=(by rcases hat8 with h | h;(have:=HOWN.out g h;omega);(first | omega | (simp at h;omega)));have hs8:=(HS7.out.alloc (.cells #[.int .i64 0,.string ⟨#[]⟩,.int .i64 0,.slice none 0 0,.int .i64 0] 29)).grown hgrow8 (fun k hk=>by have:=HOWN.out k hk;omega);have ht8:=Turn2.grown (Turn2.al HT7.out (.cells #[.int .i64 0,.string ⟨#[]⟩,.int .i64 0,.slice none 0 0,.int .i64 0] 29)) hgrow8 (fun k hk=>by have:=HOWN.out k hk;omega);have htz8:=TrU.app (g:=g) (B:=w.heap.size) (HTX7.out.al (.cells #[.int .i64 0,.string ⟨#[]⟩,.int .i64 0,.slice none 0 0,.int .i64 0] 29)) hgrow8 (fun k hk=>by have:=HOWN.out k hk;omega) hat8 (by omega);obtain ⟨s8,⟨k0,k1,k2,k3,k4⟩,j0,j1,j2,j3,j4⟩:=RowT.last (acc:=[x1,x2]) (n:=3) (o:=10) hrow8 rfl;obtain ⟨⟨s0,s1,s2,s3,s4⟩,r0,r1,r2,r3,r4⟩:=hn8.five)
    | (refine step_append_row (v := .slice (some ⟨g3,0,none⟩) 2 cap3) (acc:=[x1,x2]) (B:=w.heap.size) (by rfl) _ _ (by rfl) (by rfl) HR7.out zeroL ⟨w51.heap.size,0,none⟩ 1 1 (by rfl) (by rfl) (zero_news (by exact hzb7.out)) zero_ok (by decide) (by simp) (by first | omega | (simp;omega)) ?_;intro g cap w8 hrow8 hgrow8 hat8 hlt8;have hrow8:RowT w.heap.size w8 ([x1,x2]++[zeroT]) (.slice (some ⟨g,0,none⟩) 3 cap):=hrow8;have hn8:=hn7.grown hgrow8 (fun e=>by have:=HOWN.out nb e.symm;omega);have hgn:g≠nb:=(by rcases hat8 with h | h;(have:=HOWN.out g h;omega);(first | omega | (simp at h;omega)));have hng:nb≠g:=Ne.symm hgn;have hgw:w.heap.size≤g:=(by rcases hat8 with h | h;(have:=HOWN.out g h;omega);(first | omega | (simp at h;omega)));have hs8:=HS7.out.grown hgrow8 (fun k hk=>by have:=HOWN.out k hk;omega);have ht8:=Turn2.grown (HT7.out) hgrow8 (fun k hk=>by have:=HOWN.out k hk;omega);have htz8:=TrU.app (g:=g) (B:=w.heap.size) (HTX7.out) hgrow8 (fun k hk=>by have:=HOWN.out k hk;omega) hat8 (by omega);obtain ⟨s8,⟨k0,k1,k2,k3,k4⟩,j0,j1,j2,j3,j4⟩:=RowT.last (acc:=[x1,x2]) (n:=3) (o:=10) hrow8 rfl;obtain ⟨⟨s0,s1,s2,s3,s4⟩,r0,r1,r2,r3,r4⟩:=hn8.five)
    | (go_simp;go_at_call 160;refine (R.within _ _ _ HSd.out HM.out).mono ?_;rintro e w7 ⟨⟨v7,rfl,hok7,d7,sl7,rfl,htr7⟩,hs7,ht7⟩;have hn7:=hn4d.tr ht7 hnr;have HT7:=Lib.hid (Turn2.r HTd.out ht7);have HTX7:=Lib.hid (htr7.weaken (B':=w51.heap.size) (Nat.le_refl _));have hwz7:w51.heap.size≤w7.heap.size:=ht7.size;obtain ⟨A7,c7,rfl⟩:=htr7.form;have HOK7:=Lib.hid hok7;have HS7:=Lib.hid hs7;obtain ⟨⟨t0,t1,t2,t3,t4⟩,u0,u1,u2,u3,u4⟩:=hn7.five;have hz7:=hn7.lt;have HR7:=Lib.hid (HRd.out.tr ht7 (by omega)))
    | (go_simp;go_at_call 160;refine (R.within _ _ _ (HS4.out.alloc (.cells #[.int .i64 0,.string ⟨#[]⟩,.int .i64 0,.slice none 0 0,.int .i64 0] 29)).dr HM.out).mono ?_;rintro e w7 ⟨⟨v7,rfl,hok7,d7,sl7,rfl,htr7⟩,hs7,ht7⟩;have hn7:=(HN4.out.alloc (.cells #[.int .i64 0,.string ⟨#[]⟩,.int .i64 0,.slice none 0 0,.int .i64 0] 29)).dr.tr ht7 hnr;have HT7:=Lib.hid (Turn2.r (Turn2.dr (Turn2.al HT4.out (.cells #[.int .i64 0,.string ⟨#[]⟩,.int .i64 0,.slice none 0 0,.int .i64 0] 29))) ht7);have HTX7:=Lib.hid (htr7.weaken (B':=w51.heap.size) (by show w51.heap.size≤(w51.alloc _).heap.size;rw [World.size_alloc];omega));have hwz7:w51.heap.size<w7.heap.size:=(by have h9:(w51.alloc (.cells #[.int .i64 0,.string ⟨#[]⟩,.int .i64 0,.slice none 0 0,.int .i64 0] 29)).heap.size≤w7.heap.size:=ht7.size;rw [World.size_alloc] at h9;omega);have hzb7:=Lib.hid ((Blk.new w51 29 #[.int .i64 0,.string ⟨#[]⟩,.int .i64 0,.slice none 0 0,.int .i64 0]).dr.tr ht7 (by omega));obtain ⟨A7,c7,rfl⟩:=htr7.form;have HOK7:=Lib.hid hok7;have HS7:=Lib.hid hs7;obtain ⟨⟨t0,t1,t2,t3,t4⟩,u0,u1,u2,u3,u4⟩:=hn7.five;have hz7:=hn7.lt;have HR7:=Lib.hid ((HR4.out.al (.cells #[.int .i64 0,.string ⟨#[]⟩,.int .i64 0,.slice none 0 0,.int .i64 0] 29)).dr.tr ht7 (by omega))))
   all_goals
    first
     | (have hq7:=hzb7
        obtain ⟨m7,hm7⟩ : ∃ m,m=w51.heap.size:=⟨_,rfl⟩
        rw [← hm7]
        refine ⟨A7,c7,m7,g,cap,rfl,?_⟩)
     | (obtain ⟨m7,hm7⟩ : ∃ m,m=w7.heap.size:=⟨_,rfl⟩
        rw [← hm7]
        refine ⟨A7,c7,m7,g,cap,rfl,?_⟩)
    first
     | ((with_reducible refine app_a hrb hnl hgw hs8 ht8 hn8 hrow8 (acc:=[x1,x2]) (o:=10) ?_ rfl HOK7.out htz8 ?_ ?_ ?_ ?_) <;> rfl)
     | ((with_reducible refine app_b hrb hnl hgw hs8 ht8 hn8 hrow8 (acc:=[x1,x2]) (o:=10) ?_ rfl HOK7.out htz8 ?_ ?_ ?_ ?_) <;> rfl)
  intro A75 c75 m75 g5 cap5 w25 hap
  have hs:=hap.st
  have ht:=hap.tn
  have hb:=hap.blk
  have hr:RowT w.heap.size w25 [x1,x2,x3] _:=hap.row
  clear hap
  have HS5:=Lib.hid hs
  have HT5:=Lib.hid ht
  have hn5:=hb
  have HR5:=Lib.hid hr
  clear hs ht hb hr
  clear a0 a1 a2 a3 a4 f0 f1 f2 f3 f4 hn4d HSd HTd HRd HOWN
  obtain rfl:=some_ok h4
  clear h4
  go_wp2
  go_end0
  exact PostW.ok HS5.out HT5.out (nd_ok (by decide) (by decide)) hn5 (HR5.out.treesU (by simp))
end
end Go.Proofs.YtjjdmiaonkailaaGreatDoor
