/- Walks and plain laws, packed: RdMd, RdMe. -/
import Derived.Test.YtjjdmiaonkailaaGreatDoorK21
import Derived.Deep.RegionHeld3
import Derived.Deep.RegionWith
import Derived.Deep.AppendLies
import Derived.Deep.RegionLaw
namespace Go.Proofs.YtjjdmiaonkailaaGreatDoor
section
open Go.RowKit Go.Sort
set_option maxRecDepth 100000 in
set_option maxHeartbeats 8000000 in
theorem throw_word {rb last f:Nat} (R:AllR rb last f):WordC rb last f [116,104,114,111,119] 136:=by
 intro w nb ln l y hrb hn0 h hy0
 have hlt:=h.lt
 have hnl:=hn0.lt
 have hnr:nb≠rb:=by omega
 have HS0:=Lib.hid h
 have HT0:Hid (Turn2 rb nb w w):=Lib.hid (Turn.refl _ _)
 clear h
 unfold wordS at hy0
 go_enter Tryz.func136,Tryz.ntmps136
 have f4:=field_tok4
 have hy:(if (hereF last l).nl=true then stopF last false l else ((fns last f).expr l).bind fun x r=>(endF last r).bind fun _ q => .ok (nd 37 [] [x] ln) q)=some y:=hy0
 clear hy0
 have hs:=HS0.out.set' (g:=nb) (j:=0) hrb (.int .i64 37)
 have ht:=Turn2.set HT0.out 0 (.int .i64 37)
 have hb:Blk (w.setCell ⟨nb,0,none⟩ (.int .i64 37)) nb 29 #[.int .i64 37,.string ⟨#[]⟩,.int .i64 0,.slice none 0 0,.int .i64 ln]:=by simpa using hn0.set_ 0 (.int .i64 37)
 have hrest : ∃ v1,v1=w.setCell ⟨nb,0,none⟩ (.int .i64 37):=⟨_,rfl⟩
 obtain ⟨⟨a0,a1,a2,a3,a4⟩,f0,f1,f2,f3,f4⟩:=hn0.five
 clear hrest
 go_wp2_with fail
 clear a0 a1 a2 a3 a4 f0 f1 f2 f3 f4 hn0
 have hsz1:(w.setCell ⟨nb,0,none⟩ (.int .i64 37)).heap.size=w.heap.size:=by simp only [World.size_setCell]
 have HH:=Lib.hid (And.intro hs (And.intro ht hb))
 clear hs ht hb
 have HH:=HH.out
 generalize w.setCell ⟨nb,0,none⟩ (.int .i64 37)=v1 at HH hsz1 ⊢
 have HSZ1:=Lib.hid hsz1
 clear hsz1
 obtain ⟨hs,ht,hb⟩:=HH
 have HS1:=Lib.hid hs
 have HT1:=Lib.hid ht
 have hn1:=hb
 clear hs ht hb
 go_wp2_with fail
 refine (here_calls _ rb last _ HS1.out).mono ?_
 rintro e w31 ⟨rfl,hb⟩
 unfold tokV
 have ht:=turn_below (rb:=rb) hb
 have hs:=HS1.out.below hb
 clear hb
 have HS2:=Lib.hid hs
 have HT2:=Lib.hid (Turn2.r HT1.out ht)
 have hn2:=hn1.tr ht hnr
 clear hs ht hn1
 cases hk:(hereF last l).nl with
 | true =>
  rw [hk,if_pos rfl] at hy
  have hy2:=err_eq hy
  clear hy
  have HY2:=Lib.hid hy2
  clear hy2
  go_wp2_with fail
  refine (stops_calls _ rb last _ HS2.out false).mono ?_
  rintro e w9 ⟨rfl,hb9⟩
  exact ⟨rfl,PostW.err HY2.out (Turn2.r HT2.out (turn_below hb9))⟩
 | false =>
  rw [hk,if_neg (by decide)] at hy
  have hn2d:=hn2.dr
  have hzn:nb<w31.heap.size:=hn2.lt
  obtain ⟨⟨a0,a1,a2,a3,a4⟩,f0,f1,f2,f3,f4⟩:=hn2.five
  have HN2:=Lib.hid hn2
  clear hn2
  have HSd:=Lib.hid HS2.out.dr
  have HTd:=Lib.hid (Turn2.dr HT2.out)
  have hwz:w.heap.size≤w31.heap.size:=HT2.out.size
  rcases bind_some hy with ⟨⟨c,ln2⟩,h1,rfl⟩ | ⟨x1,r1,h1,h2⟩
  ·have HM:=Lib.hid h1
   clear h1 hy
   go_wp2_with fail
   go_region_law (first
    | (go_simp;go_at_call 27;refine (R.expr _ _ _ HSd.out HM.out).mono ?_;rintro e w7 ⟨rfl,ht7⟩;refine goneAny w7 ⟨rfl,PostW.err rfl (Turn2.r HTd.out ht7)⟩ ?_)
    | (go_simp;go_at_call 27;refine (R.expr _ _ _ (HS2.out.alloc (.cells #[.int .i64 0,.string ⟨#[]⟩,.int .i64 0,.slice none 0 0,.int .i64 0] 29)).dr HM.out).mono ?_;rintro e w7 ⟨rfl,ht7⟩;refine goneAny w7 ⟨rfl,PostW.err rfl (Turn2.r (Turn2.dr (Turn2.al HT2.out (.cells #[.int .i64 0,.string ⟨#[]⟩,.int .i64 0,.slice none 0 0,.int .i64 0] 29))) ht7)⟩ ?_))
   all_goals trivial
  have HM:=Lib.hid h1
  clear h1 hy
  go_wp2_with fail
  apply wp_mid5 (R:=fun A7 c7 m7 g cap w9=>AppP rb last nb w r1 (.int .i64 37) (.string ⟨#[]⟩) (.int .i64 0) (.slice (some ⟨g,0,none⟩) 1 cap) (.int .i64 ln) ([]++[x1]) w9)
  case h =>
   go_region_law (first
    | (refine step_append_row (v := .slice none 0 0) (acc:=[]) (B:=w.heap.size) (by rfl) _ _ (by rfl) (by rfl) (RowT.nil) zeroL ⟨w7.heap.size,0,none⟩ 1 1 (by rfl) (by rfl) (zero_news (by exact (Blk.new w7 29 #[.int .i64 0,.string ⟨#[]⟩,.int .i64 0,.slice none 0 0,.int .i64 0]))) zero_ok (by decide) (by simp) (by first | omega | (simp;omega)) ?_;intro g cap w8 hrow8 hgrow8 hat8 hlt8;have hrow8:RowT w.heap.size w8 ([]++[zeroT]) (.slice (some ⟨g,0,none⟩) 1 cap):=hrow8;have hn8:=(hn7.alloc (.cells #[.int .i64 0,.string ⟨#[]⟩,.int .i64 0,.slice none 0 0,.int .i64 0] 29)).grown hgrow8 (by simp [Value.ownBlock]);have hgn:g≠nb:=(by rcases hat8 with h | h;(exact absurd h (by simp [Value.ownBlock]));(first | omega | (simp at h;omega)));have hng:nb≠g:=Ne.symm hgn;have hgw:w.heap.size≤g:=(by rcases hat8 with h | h;(exact absurd h (by simp [Value.ownBlock]));(first | omega | (simp at h;omega)));have hs8:=(HS7.out.alloc (.cells #[.int .i64 0,.string ⟨#[]⟩,.int .i64 0,.slice none 0 0,.int .i64 0] 29)).grown hgrow8 (by simp [Value.ownBlock]);have ht8:=Turn2.grown (Turn2.al HT7.out (.cells #[.int .i64 0,.string ⟨#[]⟩,.int .i64 0,.slice none 0 0,.int .i64 0] 29)) hgrow8 (by simp [Value.ownBlock]);have htz8:=TrU.app (g:=g) (B:=w.heap.size) (HTX7.out.al (.cells #[.int .i64 0,.string ⟨#[]⟩,.int .i64 0,.slice none 0 0,.int .i64 0] 29)) hgrow8 (by simp [Value.ownBlock]) hat8 (by omega);obtain ⟨s8,⟨k0,k1,k2,k3,k4⟩,j0,j1,j2,j3,j4⟩:=RowT.last (acc:=[]) (n:=1) (o:=0) hrow8 rfl;obtain ⟨⟨s0,s1,s2,s3,s4⟩,r0,r1,r2,r3,r4⟩:=hn8.five)
    | (refine step_append_row (v := .slice none 0 0) (acc:=[]) (B:=w.heap.size) (by rfl) _ _ (by rfl) (by rfl) (RowT.nil) zeroL ⟨w31.heap.size,0,none⟩ 1 1 (by rfl) (by rfl) (zero_news (by exact hzb7.out)) zero_ok (by decide) (by simp) (by first | omega | (simp;omega)) ?_;intro g cap w8 hrow8 hgrow8 hat8 hlt8;have hrow8:RowT w.heap.size w8 ([]++[zeroT]) (.slice (some ⟨g,0,none⟩) 1 cap):=hrow8;have hn8:=hn7.grown hgrow8 (by simp [Value.ownBlock]);have hgn:g≠nb:=(by rcases hat8 with h | h;(exact absurd h (by simp [Value.ownBlock]));(first | omega | (simp at h;omega)));have hng:nb≠g:=Ne.symm hgn;have hgw:w.heap.size≤g:=(by rcases hat8 with h | h;(exact absurd h (by simp [Value.ownBlock]));(first | omega | (simp at h;omega)));have hs8:=HS7.out.grown hgrow8 (by simp [Value.ownBlock]);have ht8:=Turn2.grown (HT7.out) hgrow8 (by simp [Value.ownBlock]);have htz8:=TrU.app (g:=g) (B:=w.heap.size) (HTX7.out) hgrow8 (by simp [Value.ownBlock]) hat8 (by omega);obtain ⟨s8,⟨k0,k1,k2,k3,k4⟩,j0,j1,j2,j3,j4⟩:=RowT.last (acc:=[]) (n:=1) (o:=0) hrow8 rfl;obtain ⟨⟨s0,s1,s2,s3,s4⟩,r0,r1,r2,r3,r4⟩:=hn8.five)
    | (go_simp;go_at_call 27;refine (R.expr _ _ _ HSd.out HM.out).mono ?_;rintro e w7 ⟨⟨v7,rfl,hok7,d7,sl7,rfl,htr7⟩,hs7,ht7⟩;have hn7:=hn2d.tr ht7 hnr;have HT7:=Lib.hid (Turn2.r HTd.out ht7);have HTX7:=Lib.hid (htr7.weaken (B':=w31.heap.size) (Nat.le_refl _));have hwz7:w31.heap.size≤w7.heap.size:=ht7.size;obtain ⟨A7,c7,rfl⟩:=htr7.form;have HOK7:=Lib.hid hok7;have HS7:=Lib.hid hs7;obtain ⟨⟨t0,t1,t2,t3,t4⟩,u0,u1,u2,u3,u4⟩:=hn7.five;have hz7:=hn7.lt)
    | (go_simp;go_at_call 27;refine (R.expr _ _ _ (HS2.out.alloc (.cells #[.int .i64 0,.string ⟨#[]⟩,.int .i64 0,.slice none 0 0,.int .i64 0] 29)).dr HM.out).mono ?_;rintro e w7 ⟨⟨v7,rfl,hok7,d7,sl7,rfl,htr7⟩,hs7,ht7⟩;have hn7:=(HN2.out.alloc (.cells #[.int .i64 0,.string ⟨#[]⟩,.int .i64 0,.slice none 0 0,.int .i64 0] 29)).dr.tr ht7 hnr;have HT7:=Lib.hid (Turn2.r (Turn2.dr (Turn2.al HT2.out (.cells #[.int .i64 0,.string ⟨#[]⟩,.int .i64 0,.slice none 0 0,.int .i64 0] 29))) ht7);have HTX7:=Lib.hid (htr7.weaken (B':=w31.heap.size) (by show w31.heap.size≤(w31.alloc _).heap.size;rw [World.size_alloc];omega));have hwz7:w31.heap.size<w7.heap.size:=(by have h9:(w31.alloc (.cells #[.int .i64 0,.string ⟨#[]⟩,.int .i64 0,.slice none 0 0,.int .i64 0] 29)).heap.size≤w7.heap.size:=ht7.size;rw [World.size_alloc] at h9;omega);have hzb7:=Lib.hid ((Blk.new w31 29 #[.int .i64 0,.string ⟨#[]⟩,.int .i64 0,.slice none 0 0,.int .i64 0]).dr.tr ht7 (by omega));obtain ⟨A7,c7,rfl⟩:=htr7.form;have HOK7:=Lib.hid hok7;have HS7:=Lib.hid hs7;obtain ⟨⟨t0,t1,t2,t3,t4⟩,u0,u1,u2,u3,u4⟩:=hn7.five;have hz7:=hn7.lt))
   all_goals
    first
     | (have hq7:=hzb7
        obtain ⟨m7,hm7⟩ : ∃ m,m=w31.heap.size:=⟨_,rfl⟩
        rw [← hm7]
        refine ⟨A7,c7,m7,g,cap,rfl,?_⟩)
     | (obtain ⟨m7,hm7⟩ : ∃ m,m=w7.heap.size:=⟨_,rfl⟩
        rw [← hm7]
        refine ⟨A7,c7,m7,g,cap,rfl,?_⟩)
    first
     | ((with_reducible refine app_a hrb hnl hgw hs8 ht8 hn8 hrow8 (acc:=[]) (o:=0) ?_ rfl HOK7.out htz8 ?_ ?_ ?_ ?_) <;> rfl)
     | ((with_reducible refine app_b hrb hnl hgw hs8 ht8 hn8 hrow8 (acc:=[]) (o:=0) ?_ rfl HOK7.out htz8 ?_ ?_ ?_ ?_) <;> rfl)
  intro A73 c73 m73 g3 cap3 w23 hap
  have hs:=hap.st
  have ht:=hap.tn
  have hb:=hap.blk
  have hr:RowT w.heap.size w23 [x1] _:=hap.row
  clear hap
  have HS3:=Lib.hid hs
  have HT3:=Lib.hid ht
  have hn3:=hb
  have HR3:=Lib.hid hr
  clear hs ht hb hr
  clear a0 a1 a2 a3 a4 f0 f1 f2 f3 f4 hn2d HSd HTd
  rcases bind_some h2 with ⟨⟨c,ln2⟩,h1,rfl⟩ | ⟨_,q,h1,h9⟩
  ·have HM:=Lib.hid h1
   clear h1 h2
   go_wp2_with fail
   refine (end_calls _ rb last _ HS3.out _ HM.out).mono ?_
   rintro e w9 ⟨rfl,ht⟩
   exact ⟨rfl,PostW.err rfl (Turn2.r HT3.out ht)⟩
  have HM:=Lib.hid h1
  clear h1 h2
  go_wp2_with fail
  refine (end_calls _ rb last _ HS3.out _ HM.out).mono ?_
  rintro e w9 ⟨⟨v,rfl,-⟩,hs,ht⟩
  have HS4:=Lib.hid hs
  have HT4:=Lib.hid (Turn2.r HT3.out ht)
  have hn4:=hn3.tr ht hnr
  have HR4:=Lib.hid (HR3.out.tr ht (by omega))
  clear hs ht hn3
  obtain rfl:=some_ok h9
  clear h9
  go_wp2
  go_end0
  exact PostW.ok HS4.out HT4.out (nd_ok (by decide) (by decide)) hn4 (HR4.out.treesU (by simp))
set_option maxRecDepth 100000 in
set_option maxHeartbeats 2000000 in
theorem next_word {rb last f:Nat} (_R:AllR rb last f):WordC rb last f [99,111,110,116,105,110,117,101] 139:=by
 intro w nb ln l y hrb hn0 h hy0
 have hlt:=h.lt
 have hnl:=hn0.lt
 have hnr:nb≠rb:=by omega
 have HS0:=Lib.hid h
 have HT0:Hid (Turn2 rb nb w w):=Lib.hid (Turn.refl _ _)
 clear h
 unfold wordS at hy0
 go_enter Tryz.func139,Tryz.ntmps139
 have hy:(endF last l).bind (fun _ q => .ok (nd 40 [] [] ln) q)=some y:=hy0
 clear hy0
 have hs:=HS0.out.set' (g:=nb) (j:=0) hrb (.int .i64 40)
 have ht:=Turn2.set HT0.out 0 (.int .i64 40)
 have hb:Blk (w.setCell ⟨nb,0,none⟩ (.int .i64 40)) nb 29 #[.int .i64 40,.string ⟨#[]⟩,.int .i64 0,.slice none 0 0,.int .i64 ln]:=by simpa using hn0.set_ 0 (.int .i64 40)
 have hrest : ∃ v1,v1=w.setCell ⟨nb,0,none⟩ (.int .i64 40):=⟨_,rfl⟩
 obtain ⟨⟨a0,a1,a2,a3,a4⟩,f0,f1,f2,f3,f4⟩:=hn0.five
 clear hrest
 go_wp2_with fail
 clear a0 a1 a2 a3 a4 f0 f1 f2 f3 f4 hn0
 have hsz1:(w.setCell ⟨nb,0,none⟩ (.int .i64 40)).heap.size=w.heap.size:=by simp only [World.size_setCell]
 have HH:=Lib.hid (And.intro hs (And.intro ht hb))
 clear hs ht hb
 have HH:=HH.out
 generalize w.setCell ⟨nb,0,none⟩ (.int .i64 40)=v1 at HH hsz1 ⊢
 have HSZ1:=Lib.hid hsz1
 clear hsz1
 obtain ⟨hs,ht,hb⟩:=HH
 have HS1:=Lib.hid hs
 have HT1:=Lib.hid ht
 have hn1:=hb
 clear hs ht hb
 rcases bind_some hy with ⟨⟨c,ln2⟩,h1,rfl⟩ | ⟨_,q,h1,h9⟩
 ·have HM:=Lib.hid h1
  clear h1 hy
  go_wp2_with fail
  refine (end_calls _ rb last _ HS1.out _ HM.out).mono ?_
  rintro e w9 ⟨rfl,ht⟩
  exact ⟨rfl,PostW.err rfl (Turn2.r HT1.out ht)⟩
 have HM:=Lib.hid h1
 clear h1 hy
 go_wp2_with fail
 refine (end_calls _ rb last _ HS1.out _ HM.out).mono ?_
 rintro e w9 ⟨⟨v,rfl,-⟩,hs,ht⟩
 have HS2:=Lib.hid hs
 have HT2:=Lib.hid (Turn2.r HT1.out ht)
 have hn2:=hn1.tr ht hnr
 clear hs ht hn1
 obtain rfl:=some_ok h9
 clear h9
 go_wp2
 go_end0
 exact PostW.ok HS2.out HT2.out (nd_ok (by decide) (by decide)) hn2 (⟨0,TrU.nil 0 none 0⟩)
end
section
open Go.RowKit Go.Sort
set_option maxRecDepth 100000 in
set_option maxHeartbeats 8000000 in
theorem back_word {rb last f:Nat} (R:AllR rb last f):WordC rb last f [114,101,116,117,114,110] 135:=by
 intro w nb ln l y hrb hn0 h hy0
 have hlt:=h.lt
 have hnl:=hn0.lt
 have hnr:nb≠rb:=by omega
 have HS0:=Lib.hid h
 have HT0:Hid (Turn2 rb nb w w):=Lib.hid (Turn.refl _ _)
 clear h
 unfold wordS at hy0
 go_enter Tryz.func135,Tryz.ntmps135
 have hy:(if (hereF last l).t.kind≠0∧(hereF last l).nl=false∧atF [[59],[125]] l=false then ((fns last f).expr l).bind fun x r=>(endF last r).bind fun _ q => .ok (nd 36 [] [x] ln) q else (endF last l).bind fun _ q => .ok (nd 36 [] [] ln) q)=some y:=hy0
 clear hy0
 have hs:=HS0.out.set' (g:=nb) (j:=0) hrb (.int .i64 36)
 have ht:=Turn2.set HT0.out 0 (.int .i64 36)
 have hb:Blk (w.setCell ⟨nb,0,none⟩ (.int .i64 36)) nb 29 #[.int .i64 36,.string ⟨#[]⟩,.int .i64 0,.slice none 0 0,.int .i64 ln]:=by simpa using hn0.set_ 0 (.int .i64 36)
 have hrest : ∃ v1,v1=w.setCell ⟨nb,0,none⟩ (.int .i64 36):=⟨_,rfl⟩
 obtain ⟨⟨a0,a1,a2,a3,a4⟩,f0,f1,f2,f3,f4⟩:=hn0.five
 clear hrest
 go_wp2_with fail
 clear a0 a1 a2 a3 a4 f0 f1 f2 f3 f4 hn0
 have hsz1:(w.setCell ⟨nb,0,none⟩ (.int .i64 36)).heap.size=w.heap.size:=by simp only [World.size_setCell]
 have HH:=Lib.hid (And.intro hs (And.intro ht hb))
 clear hs ht hb
 have HH:=HH.out
 generalize w.setCell ⟨nb,0,none⟩ (.int .i64 36)=v1 at HH hsz1 ⊢
 have HSZ1:=Lib.hid hsz1
 clear hsz1
 obtain ⟨hs,ht,hb⟩:=HH
 have HS1:=Lib.hid hs
 have HT1:=Lib.hid ht
 have hn1:=hb
 clear hs ht hb
 go_wp2_with fail
 refine (here_calls _ rb last _ HS1.out).mono ?_
 rintro e w31 ⟨rfl,hb⟩
 unfold tokV
 have ht:=turn_below (rb:=rb) hb
 have hs:=HS1.out.below hb
 clear hb
 have HS2:=Lib.hid hs
 have HT2:=Lib.hid (Turn2.r HT1.out ht)
 have hn2:=hn1.tr ht hnr
 clear hs ht hn1
 obtain ⟨kk,hkk⟩ : ∃ k,k=(hereF last l).t.kind:=⟨_,rfl⟩
 obtain ⟨bn,hbn⟩ : ∃ k,k=(hereF last l).nl:=⟨_,rfl⟩
 rw [← hkk,← hbn]
 rw [← hkk,← hbn] at hy
 clear hkk hbn
 have HS3:=Lib.hid (HS2.out.alloc (.cells #[.int .i64 kk,.string ⟨(hereF last l).t.s.toArray⟩,.int .i64 (hereF last l).t.n,.int .i64 (hereF last l).line,.bool bn] 37))
 have HT3:=Lib.hid (Turn2.al HT2.out (.cells #[.int .i64 kk,.string ⟨(hereF last l).t.s.toArray⟩,.int .i64 (hereF last l).t.n,.int .i64 (hereF last l).line,.bool bn] 37))
 have hn3:=hn2.alloc (.cells #[.int .i64 kk,.string ⟨(hereF last l).t.s.toArray⟩,.int .i64 (hereF last l).t.n,.int .i64 (hereF last l).line,.bool bn] 37)
 clear hn2
 have hz31:rb<w31.heap.size:=HS2.out.lt
 cases hk:(kk==0) with
 | true =>
  obtain rfl:kk=0:=by simpa using hk
  clear hk
  rw [if_neg (by simp)] at hy
  rcases bind_some hy with ⟨⟨c,ln2⟩,h1,rfl⟩ | ⟨_,q,h1,h9⟩
  ·have HM:=Lib.hid h1
   clear h1 hy
   go_wp2_with fail
   refine (end_calls _ rb last _ HS3.out _ HM.out).mono ?_
   rintro e w9 ⟨rfl,ht⟩
   exact ⟨rfl,PostW.err rfl (Turn2.r HT3.out ht)⟩
  have HM:=Lib.hid h1
  clear h1 hy
  go_wp2_with fail
  refine (end_calls _ rb last _ HS3.out _ HM.out).mono ?_
  rintro e w9 ⟨⟨v,rfl,-⟩,hs,ht⟩
  have HS4:=Lib.hid hs
  have HT4:=Lib.hid (Turn2.r HT3.out ht)
  have hn4:=hn3.tr ht hnr
  clear hs ht hn3
  obtain rfl:=some_ok h9
  clear h9
  go_wp2
  go_end0
  exact PostW.ok HS4.out HT4.out (nd_ok (by decide) (by decide)) hn4 (⟨0,TrU.nil 0 none 0⟩)
 | false =>
  have hk':¬ kk=0:=by simpa using hk
  have hkn:(kk != 0)=true:=by unfold bne;rw [hk];rfl
  cases bn with
  | true =>
   rw [if_neg (by simp)] at hy
   rcases bind_some hy with ⟨⟨c,ln2⟩,h1,rfl⟩ | ⟨_,q,h1,h9⟩
   ·have HM:=Lib.hid h1
    clear h1 hy
    go_wp2_with fail
    refine (end_calls _ rb last _ HS3.out _ HM.out).mono ?_
    rintro e w9 ⟨rfl,ht⟩
    exact ⟨rfl,PostW.err rfl (Turn2.r HT3.out ht)⟩
   have HM:=Lib.hid h1
   clear h1 hy
   go_wp2_with fail
   refine (end_calls _ rb last _ HS3.out _ HM.out).mono ?_
   rintro e w9 ⟨⟨v,rfl,-⟩,hs,ht⟩
   have HS4:=Lib.hid hs
   have HT4:=Lib.hid (Turn2.r HT3.out ht)
   have hn4:=hn3.tr ht hnr
   clear hs ht hn3
   obtain rfl:=some_ok h9
   clear h9
   go_wp2
   go_end0
   exact PostW.ok HS4.out HT4.out (nd_ok (by decide) (by decide)) hn4 (⟨0,TrU.nil 0 none 0⟩)
  | false =>
   cases hc:atF [[59],[125]] l with
   | true =>
    rw [if_neg (by simp [hc])] at hy
    go_wp2_with fail
    refine (isAt2 HS3.out ⟨#[59]⟩ ⟨#[125]⟩ _ ?hx30 _ hc).mono ?_
    case hx30=>first | rfl | simp
    rintro e w32 ⟨rfl,hb⟩
    have ht:=turn_below (rb:=rb) hb
    have hs:=HS3.out.below hb
    clear hb
    have HS4:=Lib.hid hs
    have HT4:=Lib.hid (Turn2.r HT3.out ht)
    have hn4:=hn3.tr ht hnr
    clear hs ht hn3
    rcases bind_some hy with ⟨⟨c,ln2⟩,h1,rfl⟩ | ⟨_,q,h1,h9⟩
    ·have HM:=Lib.hid h1
     clear h1 hy
     go_wp2_with fail
     refine (end_calls _ rb last _ HS4.out _ HM.out).mono ?_
     rintro e w9 ⟨rfl,ht⟩
     exact ⟨rfl,PostW.err rfl (Turn2.r HT4.out ht)⟩
    have HM:=Lib.hid h1
    clear h1 hy
    go_wp2_with fail
    refine (end_calls _ rb last _ HS4.out _ HM.out).mono ?_
    rintro e w9 ⟨⟨v,rfl,-⟩,hs,ht⟩
    have HS5:=Lib.hid hs
    have HT5:=Lib.hid (Turn2.r HT4.out ht)
    have hn5:=hn4.tr ht hnr
    clear hs ht hn4
    obtain rfl:=some_ok h9
    clear h9
    go_wp2
    go_end0
    exact PostW.ok HS5.out HT5.out (nd_ok (by decide) (by decide)) hn5 (⟨0,TrU.nil 0 none 0⟩)
   | false =>
    rw [if_pos ⟨hk',rfl,hc⟩] at hy
    go_wp2_with fail
    refine (isAt2 HS3.out ⟨#[59]⟩ ⟨#[125]⟩ _ ?hx33 _ hc).mono ?_
    case hx33=>first | rfl | simp
    rintro e w32 ⟨rfl,hb⟩
    have ht:=turn_below (rb:=rb) hb
    have hs:=HS3.out.below hb
    clear hb
    have HS4:=Lib.hid hs
    have HT4:=Lib.hid (Turn2.r HT3.out ht)
    have hn4:=hn3.tr ht hnr
    clear hs ht hn3
    clear hkn hk
    have hn4d:=hn4.dr
    have hzn:nb<w32.heap.size:=hn4.lt
    obtain ⟨⟨a0,a1,a2,a3,a4⟩,f0,f1,f2,f3,f4⟩:=hn4.five
    have HN4:=Lib.hid hn4
    clear hn4
    have HSd:=Lib.hid HS4.out.dr
    have HTd:=Lib.hid (Turn2.dr HT4.out)
    have hwz:w.heap.size≤w32.heap.size:=HT4.out.size
    rcases bind_some hy with ⟨⟨c,ln2⟩,h1,rfl⟩ | ⟨x1,r1,h1,h2⟩
    ·have HM:=Lib.hid h1
     clear h1 hy
     go_wp2_with fail
     go_region_law (first
      | (go_simp;go_at_call 27;refine (R.expr _ _ _ HSd.out HM.out).mono ?_;rintro e w7 ⟨rfl,ht7⟩;refine goneAny w7 ⟨rfl,PostW.err rfl (Turn2.r HTd.out ht7)⟩ ?_)
      | (go_simp;go_at_call 27;refine (R.expr _ _ _ (HS4.out.alloc (.cells #[.int .i64 0,.string ⟨#[]⟩,.int .i64 0,.slice none 0 0,.int .i64 0] 29)).dr HM.out).mono ?_;rintro e w7 ⟨rfl,ht7⟩;refine goneAny w7 ⟨rfl,PostW.err rfl (Turn2.r (Turn2.dr (Turn2.al HT4.out (.cells #[.int .i64 0,.string ⟨#[]⟩,.int .i64 0,.slice none 0 0,.int .i64 0] 29))) ht7)⟩ ?_))
     all_goals trivial
    have HM:=Lib.hid h1
    clear h1 hy
    go_wp2_with fail
    apply wp_mid5 (R:=fun A7 c7 m7 g cap w9=>AppP rb last nb w r1 (.int .i64 36) (.string ⟨#[]⟩) (.int .i64 0) (.slice (some ⟨g,0,none⟩) 1 cap) (.int .i64 ln) ([]++[x1]) w9)
    case h =>
     go_region_law (first
      | (refine step_append_row (v := .slice none 0 0) (acc:=[]) (B:=w.heap.size) (by rfl) _ _ (by rfl) (by rfl) (RowT.nil) zeroL ⟨w7.heap.size,0,none⟩ 1 1 (by rfl) (by rfl) (zero_news (by exact (Blk.new w7 29 #[.int .i64 0,.string ⟨#[]⟩,.int .i64 0,.slice none 0 0,.int .i64 0]))) zero_ok (by decide) (by simp) (by first | omega | (simp;omega)) ?_;intro g cap w8 hrow8 hgrow8 hat8 hlt8;have hrow8:RowT w.heap.size w8 ([]++[zeroT]) (.slice (some ⟨g,0,none⟩) 1 cap):=hrow8;have hn8:=(hn7.alloc (.cells #[.int .i64 0,.string ⟨#[]⟩,.int .i64 0,.slice none 0 0,.int .i64 0] 29)).grown hgrow8 (by simp [Value.ownBlock]);have hgn:g≠nb:=(by rcases hat8 with h | h;(exact absurd h (by simp [Value.ownBlock]));(first | omega | (simp at h;omega)));have hng:nb≠g:=Ne.symm hgn;have hgw:w.heap.size≤g:=(by rcases hat8 with h | h;(exact absurd h (by simp [Value.ownBlock]));(first | omega | (simp at h;omega)));have hs8:=(HS7.out.alloc (.cells #[.int .i64 0,.string ⟨#[]⟩,.int .i64 0,.slice none 0 0,.int .i64 0] 29)).grown hgrow8 (by simp [Value.ownBlock]);have ht8:=Turn2.grown (Turn2.al HT7.out (.cells #[.int .i64 0,.string ⟨#[]⟩,.int .i64 0,.slice none 0 0,.int .i64 0] 29)) hgrow8 (by simp [Value.ownBlock]);have htz8:=TrU.app (g:=g) (B:=w.heap.size) (HTX7.out.al (.cells #[.int .i64 0,.string ⟨#[]⟩,.int .i64 0,.slice none 0 0,.int .i64 0] 29)) hgrow8 (by simp [Value.ownBlock]) hat8 (by omega);obtain ⟨s8,⟨k0,k1,k2,k3,k4⟩,j0,j1,j2,j3,j4⟩:=RowT.last (acc:=[]) (n:=1) (o:=0) hrow8 rfl;obtain ⟨⟨s0,s1,s2,s3,s4⟩,r0,r1,r2,r3,r4⟩:=hn8.five)
      | (refine step_append_row (v := .slice none 0 0) (acc:=[]) (B:=w.heap.size) (by rfl) _ _ (by rfl) (by rfl) (RowT.nil) zeroL ⟨w32.heap.size,0,none⟩ 1 1 (by rfl) (by rfl) (zero_news (by exact hzb7.out)) zero_ok (by decide) (by simp) (by first | omega | (simp;omega)) ?_;intro g cap w8 hrow8 hgrow8 hat8 hlt8;have hrow8:RowT w.heap.size w8 ([]++[zeroT]) (.slice (some ⟨g,0,none⟩) 1 cap):=hrow8;have hn8:=hn7.grown hgrow8 (by simp [Value.ownBlock]);have hgn:g≠nb:=(by rcases hat8 with h | h;(exact absurd h (by simp [Value.ownBlock]));(first | omega | (simp at h;omega)));have hng:nb≠g:=Ne.symm hgn;have hgw:w.heap.size≤g:=(by rcases hat8 with h | h;(exact absurd h (by simp [Value.ownBlock]));(first | omega | (simp at h;omega)));have hs8:=HS7.out.grown hgrow8 (by simp [Value.ownBlock]);have ht8:=Turn2.grown (HT7.out) hgrow8 (by simp [Value.ownBlock]);have htz8:=TrU.app (g:=g) (B:=w.heap.size) (HTX7.out) hgrow8 (by simp [Value.ownBlock]) hat8 (by omega);obtain ⟨s8,⟨k0,k1,k2,k3,k4⟩,j0,j1,j2,j3,j4⟩:=RowT.last (acc:=[]) (n:=1) (o:=0) hrow8 rfl;obtain ⟨⟨s0,s1,s2,s3,s4⟩,r0,r1,r2,r3,r4⟩:=hn8.five)
      | (go_simp;go_at_call 27;refine (R.expr _ _ _ HSd.out HM.out).mono ?_;rintro e w7 ⟨⟨v7,rfl,hok7,d7,sl7,rfl,htr7⟩,hs7,ht7⟩;have hn7:=hn4d.tr ht7 hnr;have HT7:=Lib.hid (Turn2.r HTd.out ht7);have HTX7:=Lib.hid (htr7.weaken (B':=w32.heap.size) (Nat.le_refl _));have hwz7:w32.heap.size≤w7.heap.size:=ht7.size;obtain ⟨A7,c7,rfl⟩:=htr7.form;have HOK7:=Lib.hid hok7;have HS7:=Lib.hid hs7;obtain ⟨⟨t0,t1,t2,t3,t4⟩,u0,u1,u2,u3,u4⟩:=hn7.five;have hz7:=hn7.lt)
      | (go_simp;go_at_call 27;refine (R.expr _ _ _ (HS4.out.alloc (.cells #[.int .i64 0,.string ⟨#[]⟩,.int .i64 0,.slice none 0 0,.int .i64 0] 29)).dr HM.out).mono ?_;rintro e w7 ⟨⟨v7,rfl,hok7,d7,sl7,rfl,htr7⟩,hs7,ht7⟩;have hn7:=(HN4.out.alloc (.cells #[.int .i64 0,.string ⟨#[]⟩,.int .i64 0,.slice none 0 0,.int .i64 0] 29)).dr.tr ht7 hnr;have HT7:=Lib.hid (Turn2.r (Turn2.dr (Turn2.al HT4.out (.cells #[.int .i64 0,.string ⟨#[]⟩,.int .i64 0,.slice none 0 0,.int .i64 0] 29))) ht7);have HTX7:=Lib.hid (htr7.weaken (B':=w32.heap.size) (by show w32.heap.size≤(w32.alloc _).heap.size;rw [World.size_alloc];omega));have hwz7:w32.heap.size<w7.heap.size:=(by have h9:(w32.alloc (.cells #[.int .i64 0,.string ⟨#[]⟩,.int .i64 0,.slice none 0 0,.int .i64 0] 29)).heap.size≤w7.heap.size:=ht7.size;rw [World.size_alloc] at h9;omega);have hzb7:=Lib.hid ((Blk.new w32 29 #[.int .i64 0,.string ⟨#[]⟩,.int .i64 0,.slice none 0 0,.int .i64 0]).dr.tr ht7 (by omega));obtain ⟨A7,c7,rfl⟩:=htr7.form;have HOK7:=Lib.hid hok7;have HS7:=Lib.hid hs7;obtain ⟨⟨t0,t1,t2,t3,t4⟩,u0,u1,u2,u3,u4⟩:=hn7.five;have hz7:=hn7.lt))
     all_goals
      first
       | (have hq7:=hzb7
          obtain ⟨m7,hm7⟩ : ∃ m,m=w32.heap.size:=⟨_,rfl⟩
          rw [← hm7]
          refine ⟨A7,c7,m7,g,cap,rfl,?_⟩)
       | (obtain ⟨m7,hm7⟩ : ∃ m,m=w7.heap.size:=⟨_,rfl⟩
          rw [← hm7]
          refine ⟨A7,c7,m7,g,cap,rfl,?_⟩)
      first
       | ((with_reducible refine app_a hrb hnl hgw hs8 ht8 hn8 hrow8 (acc:=[]) (o:=0) ?_ rfl HOK7.out htz8 ?_ ?_ ?_ ?_) <;> rfl)
       | ((with_reducible refine app_b hrb hnl hgw hs8 ht8 hn8 hrow8 (acc:=[]) (o:=0) ?_ rfl HOK7.out htz8 ?_ ?_ ?_ ?_) <;> rfl)
    intro A75 c75 m75 g5 cap5 w25 hap
    have hs:=hap.st
    have ht:=hap.tn
    have hb:=hap.blk
    have hr:RowT w.heap.size w25 [x1] _:=hap.row
    clear hap
    have HS5:=Lib.hid hs
    have HT5:=Lib.hid ht
    have hn5:=hb
    have HR5:=Lib.hid hr
    clear hs ht hb hr
    clear a0 a1 a2 a3 a4 f0 f1 f2 f3 f4 hn4d HSd HTd
    rcases bind_some h2 with ⟨⟨c,ln2⟩,h1,rfl⟩ | ⟨_,q,h1,h9⟩
    ·have HM:=Lib.hid h1
     clear h1 h2
     go_wp2_with fail
     refine (end_calls _ rb last _ HS5.out _ HM.out).mono ?_
     rintro e w9 ⟨rfl,ht⟩
     exact ⟨rfl,PostW.err rfl (Turn2.r HT5.out ht)⟩
    have HM:=Lib.hid h1
    clear h1 h2
    go_wp2_with fail
    refine (end_calls _ rb last _ HS5.out _ HM.out).mono ?_
    rintro e w9 ⟨⟨v,rfl,-⟩,hs,ht⟩
    have HS6:=Lib.hid hs
    have HT6:=Lib.hid (Turn2.r HT5.out ht)
    have hn6:=hn5.tr ht hnr
    have HR6:=Lib.hid (HR5.out.tr ht (by omega))
    clear hs ht hn5
    obtain rfl:=some_ok h9
    clear h9
    go_wp2
    go_end0
    exact PostW.ok HS6.out HT6.out (nd_ok (by decide) (by decide)) hn6 (HR6.out.treesU (by simp))
end
end Go.Proofs.YtjjdmiaonkailaaGreatDoor
