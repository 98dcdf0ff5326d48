/- Walks and plain laws, packed: RdWd, RdL. -/
import Derived.Test.YtjjdmiaonkailaaGreatDoorK37
import Derived.Test.YtjjdmiaonkailaaGreatDoorK21
import Derived.Deep.RegionHeld3
import Derived.Deep.RegionWith
import Derived.Deep.AppendLies
import Derived.Deep.RegionLaw
namespace Go.Proofs.YtjjdmiaonkailaaGreatDoor
section
open Go.RowKit Go.Sort
def wordFn (s:List UInt8):Option FuncId :=
 if s=[118,97,114] then some 131
 else if s=[105,102] then some 132
 else if s=[119,104,105,108,101] then some 133
 else if s=[102,111,114] then some 134
 else if s=[114,101,116,117,114,110] then some 135
 else if s=[116,104,114,111,119] then some 136
 else if s=[116,114,121] then some 137
 else if s=[98,114,101,97,107] then some 138
 else if s=[99,111,110,116,105,110,117,101] then some 139
 else if s=[102,117,110,99,116,105,111,110] then some 140
 else none
def wordV (rb:Nat) (s:List UInt8):Option Value:=(wordFn s).map fun k => .func (.func k) #[rdP rb] #[]
theorem wordFn_mem (s:List UInt8):(wordFn s).isSome=wordsL.contains s:=by
 unfold wordFn wordsL
 by_cases h0:s=[118,97,114]
 ·subst h0;rfl
 by_cases h1:s=[105,102]
 ·subst h1;rfl
 by_cases h2:s=[119,104,105,108,101]
 ·subst h2;rfl
 by_cases h3:s=[102,111,114]
 ·subst h3;rfl
 by_cases h4:s=[114,101,116,117,114,110]
 ·subst h4;rfl
 by_cases h5:s=[116,104,114,111,119]
 ·subst h5;rfl
 by_cases h6:s=[116,114,121]
 ·subst h6;rfl
 by_cases h7:s=[98,114,101,97,107]
 ·subst h7;rfl
 by_cases h8:s=[99,111,110,116,105,110,117,101]
 ·subst h8;rfl
 by_cases h9:s=[102,117,110,99,116,105,111,110]
 ·subst h9;rfl
 simp [h0,h1,h2,h3,h4,h5,h6,h7,h8,h9]
set_option maxRecDepth 100000 in
set_option maxHeartbeats 4000000 in
theorem rdWords_calls (rb:Nat) (w:World):Calls Tryz.prog 106 #[rdP rb] w fun e w' => ∃ n f,e = .returned (.map (some w.heap.size))∧SMap Tryz.prog 9 w' w.heap.size n f∧(∀ s,f s=wordV rb s)∧Below w.heap.size w w':=by
 have m0:=SMap.made w Tryz.prog 9
 have g0:Below w.heap.size w (w.alloc (.map #[] 0)):=(Below.refl _ _).alloc (Nat.le_refl _) _
 have hmm := @run_makeMap Tryz.prog
 obtain ⟨w1,r1,m1,q1⟩:=SMap.store m0 Tryz.underlying9 Tryz.underlying138 (by decide) (s:=⟨#[118,97,114]⟩) (by decide) (.func (.func 131) #[rdP rb] #[])
 have g1:=g0.grown q1 g0.size (fun j e=>by injection e with e;omega)
 clear q1 g0
 obtain ⟨w2,r2,m2,q2⟩:=SMap.store m1 Tryz.underlying9 Tryz.underlying138 (by decide) (s:=⟨#[105,102]⟩) (by decide) (.func (.func 132) #[rdP rb] #[])
 have g2:=g1.grown q2 g1.size (fun j e=>by injection e with e;omega)
 clear q2 g1
 clear m1
 obtain ⟨w3,r3,m3,q3⟩:=SMap.store m2 Tryz.underlying9 Tryz.underlying138 (by decide) (s:=⟨#[119,104,105,108,101]⟩) (by decide) (.func (.func 133) #[rdP rb] #[])
 have g3:=g2.grown q3 g2.size (fun j e=>by injection e with e;omega)
 clear q3 g2
 clear m2
 obtain ⟨w4,r4,m4,q4⟩:=SMap.store m3 Tryz.underlying9 Tryz.underlying138 (by decide) (s:=⟨#[102,111,114]⟩) (by decide) (.func (.func 134) #[rdP rb] #[])
 have g4:=g3.grown q4 g3.size (fun j e=>by injection e with e;omega)
 clear q4 g3
 clear m3
 obtain ⟨w5,r5,m5,q5⟩:=SMap.store m4 Tryz.underlying9 Tryz.underlying138 (by decide) (s:=⟨#[114,101,116,117,114,110]⟩) (by decide) (.func (.func 135) #[rdP rb] #[])
 have g5:=g4.grown q5 g4.size (fun j e=>by injection e with e;omega)
 clear q5 g4
 clear m4
 obtain ⟨w6,r6,m6,q6⟩:=SMap.store m5 Tryz.underlying9 Tryz.underlying138 (by decide) (s:=⟨#[116,104,114,111,119]⟩) (by decide) (.func (.func 136) #[rdP rb] #[])
 have g6:=g5.grown q6 g5.size (fun j e=>by injection e with e;omega)
 clear q6 g5
 clear m5
 obtain ⟨w7,r7,m7,q7⟩:=SMap.store m6 Tryz.underlying9 Tryz.underlying138 (by decide) (s:=⟨#[116,114,121]⟩) (by decide) (.func (.func 137) #[rdP rb] #[])
 have g7:=g6.grown q7 g6.size (fun j e=>by injection e with e;omega)
 clear q7 g6
 clear m6
 obtain ⟨w8,r8,m8,q8⟩:=SMap.store m7 Tryz.underlying9 Tryz.underlying138 (by decide) (s:=⟨#[98,114,101,97,107]⟩) (by decide) (.func (.func 138) #[rdP rb] #[])
 have g8:=g7.grown q8 g7.size (fun j e=>by injection e with e;omega)
 clear q8 g7
 clear m7
 obtain ⟨w9,r9,m9,q9⟩:=SMap.store m8 Tryz.underlying9 Tryz.underlying138 (by decide) (s:=⟨#[99,111,110,116,105,110,117,101]⟩) (by decide) (.func (.func 139) #[rdP rb] #[])
 have g9:=g8.grown q9 g8.size (fun j e=>by injection e with e;omega)
 clear q9 g8
 clear m8
 obtain ⟨w10,r10,m10,q10⟩:=SMap.store m9 Tryz.underlying9 Tryz.underlying138 (by decide) (s:=⟨#[102,117,110,99,116,105,111,110]⟩) (by decide) (.func (.func 140) #[rdP rb] #[])
 have g10:=g9.grown q10 g9.size (fun j e=>by injection e with e;omega)
 clear q10 g9
 clear m9
 have M:=Lib.hid m10
 have G:=Lib.hid g10
 clear m10 g10 m0
 go_enter Tryz.func106,Tryz.ntmps106
 go_wp2
 go_ret
 refine ⟨rfl,_,_,M.out,fun s => ?_,G.out⟩
 unfold wordV wordFn
 by_cases h0:s=[118,97,114]
 ·subst h0;rfl
 by_cases h1:s=[105,102]
 ·subst h1;rfl
 by_cases h2:s=[119,104,105,108,101]
 ·subst h2;rfl
 by_cases h3:s=[102,111,114]
 ·subst h3;rfl
 by_cases h4:s=[114,101,116,117,114,110]
 ·subst h4;rfl
 by_cases h5:s=[116,104,114,111,119]
 ·subst h5;rfl
 by_cases h6:s=[116,114,121]
 ·subst h6;rfl
 by_cases h7:s=[98,114,101,97,107]
 ·subst h7;rfl
 by_cases h8:s=[99,111,110,116,105,110,117,101]
 ·subst h8;rfl
 by_cases h9:s=[102,117,110,99,116,105,111,110]
 ·subst h9;rfl
 simp only [h0,h1,h2,h3,h4,h5,h6,h7,h8,h9,if_false,Option.map_none]
end
section
open Go.RowKit Go.Sort
set_option maxRecDepth 100000 in
set_option maxHeartbeats 2000000 in
theorem leave_word {rb last f:Nat} (_R:AllR rb last f):WordC rb last f [98,114,101,97,107] 138:=by
 intro w nb ln l y hrb hn0 h hy0
 have hlt:=h.lt
 have hnl:=hn0.lt
 have hnr:nb≠rb:=by omega
 have HS0:=Lib.hid h
 have HT0:Hid (Turn2 rb nb w w):=Lib.hid (Turn.refl _ _)
 clear h
 unfold wordS at hy0
 go_enter Tryz.func138,Tryz.ntmps138
 have hy:(endF last l).bind (fun _ q => .ok (nd 39 [] [] ln) q)=some y:=hy0
 clear hy0
 have hs:=HS0.out.set' (g:=nb) (j:=0) hrb (.int .i64 39)
 have ht:=Turn2.set HT0.out 0 (.int .i64 39)
 have hb:Blk (w.setCell ⟨nb,0,none⟩ (.int .i64 39)) nb 29 #[.int .i64 39,.string ⟨#[]⟩,.int .i64 0,.slice none 0 0,.int .i64 ln]:=by simpa using hn0.set_ 0 (.int .i64 39)
 have hrest : ∃ v1,v1=w.setCell ⟨nb,0,none⟩ (.int .i64 39):=⟨_,rfl⟩
 obtain ⟨⟨a0,a1,a2,a3,a4⟩,f0,f1,f2,f3,f4⟩:=hn0.five
 clear hrest
 go_wp2_with fail
 clear a0 a1 a2 a3 a4 f0 f1 f2 f3 f4 hn0
 have hsz1:(w.setCell ⟨nb,0,none⟩ (.int .i64 39)).heap.size=w.heap.size:=by simp only [World.size_setCell]
 have HH:=Lib.hid (And.intro hs (And.intro ht hb))
 clear hs ht hb
 have HH:=HH.out
 generalize w.setCell ⟨nb,0,none⟩ (.int .i64 39)=v1 at HH hsz1 ⊢
 have HSZ1:=Lib.hid hsz1
 clear hsz1
 obtain ⟨hs,ht,hb⟩:=HH
 have HS1:=Lib.hid hs
 have HT1:=Lib.hid ht
 have hn1:=hb
 clear hs ht hb
 rcases bind_some hy with ⟨⟨c,ln2⟩,h1,rfl⟩ | ⟨_,q,h1,h9⟩
 ·have HM:=Lib.hid h1
  clear h1 hy
  go_wp2_with fail
  refine (end_calls _ rb last _ HS1.out _ HM.out).mono ?_
  rintro e w9 ⟨rfl,ht⟩
  exact ⟨rfl,PostW.err rfl (Turn2.r HT1.out ht)⟩
 have HM:=Lib.hid h1
 clear h1 hy
 go_wp2_with fail
 refine (end_calls _ rb last _ HS1.out _ HM.out).mono ?_
 rintro e w9 ⟨⟨v,rfl,-⟩,hs,ht⟩
 have HS2:=Lib.hid hs
 have HT2:=Lib.hid (Turn2.r HT1.out ht)
 have hn2:=hn1.tr ht hnr
 clear hs ht hn1
 obtain rfl:=some_ok h9
 clear h9
 go_wp2
 go_end0
 exact PostW.ok HS2.out HT2.out (nd_ok (by decide) (by decide)) hn2 (⟨0,TrU.nil 0 none 0⟩)
set_option maxRecDepth 100000 in
set_option maxHeartbeats 8000000 in
theorem loop_word {rb last f:Nat} (R:AllR rb last f):WordC rb last f [119,104,105,108,101] 133:=by
 intro w nb ln l y hrb hn0 h hy0
 have hlt:=h.lt
 have hnl:=hn0.lt
 have hnr:nb≠rb:=by omega
 have HS0:=Lib.hid h
 have HT0:Hid (Turn2 rb nb w w):=Lib.hid (Turn.refl _ _)
 clear h
 unfold wordS at hy0
 go_enter Tryz.func133,Tryz.ntmps133
 have hy:(headS last (fns last f) l).bind (fun x r=>((fns last f).within r).bind fun y q => .ok (nd 34 [] [x,y] ln) q)=some y:=hy0
 clear hy0
 have hs:=HS0.out.set' (g:=nb) (j:=0) hrb (.int .i64 34)
 have ht:=Turn2.set HT0.out 0 (.int .i64 34)
 have hb:Blk (w.setCell ⟨nb,0,none⟩ (.int .i64 34)) nb 29 #[.int .i64 34,.string ⟨#[]⟩,.int .i64 0,.slice none 0 0,.int .i64 ln]:=by simpa using hn0.set_ 0 (.int .i64 34)
 have hrest : ∃ v1,v1=w.setCell ⟨nb,0,none⟩ (.int .i64 34):=⟨_,rfl⟩
 obtain ⟨⟨a0,a1,a2,a3,a4⟩,f0,f1,f2,f3,f4⟩:=hn0.five
 clear hrest
 go_wp2_with fail
 clear a0 a1 a2 a3 a4 f0 f1 f2 f3 f4 hn0
 have hsz1:(w.setCell ⟨nb,0,none⟩ (.int .i64 34)).heap.size=w.heap.size:=by simp only [World.size_setCell]
 have HH:=Lib.hid (And.intro hs (And.intro ht hb))
 clear hs ht hb
 have HH:=HH.out
 generalize w.setCell ⟨nb,0,none⟩ (.int .i64 34)=v1 at HH hsz1 ⊢
 have HSZ1:=Lib.hid hsz1
 clear hsz1
 obtain ⟨hs,ht,hb⟩:=HH
 have HS1:=Lib.hid hs
 have HT1:=Lib.hid ht
 have hn1:=hb
 clear hs ht hb
 have hn1d:=hn1.dr
 have hzn:nb<v1.heap.size:=hn1.lt
 obtain ⟨⟨a0,a1,a2,a3,a4⟩,f0,f1,f2,f3,f4⟩:=hn1.five
 have HN1:=Lib.hid hn1
 clear hn1
 have HSd:=Lib.hid HS1.out.dr
 have HTd:=Lib.hid (Turn2.dr HT1.out)
 have hwz:w.heap.size≤v1.heap.size:=HT1.out.size
 rcases bind_some hy with ⟨⟨c,ln2⟩,h1,rfl⟩ | ⟨x1,r2,h1,h2⟩
 ·have HM:=Lib.hid h1
  clear h1 hy
  go_wp2_with fail
  go_region_law (first
   | (go_simp;go_at_call 159;refine (head_step R _ _ _ HSd.out HM.out).mono ?_;rintro e w7 ⟨rfl,ht7⟩;refine goneAny w7 ⟨rfl,PostW.err rfl (Turn2.r HTd.out ht7)⟩ ?_)
   | (go_simp;go_at_call 159;refine (head_step R _ _ _ (HS1.out.alloc (.cells #[.int .i64 0,.string ⟨#[]⟩,.int .i64 0,.slice none 0 0,.int .i64 0] 29)).dr HM.out).mono ?_;rintro e w7 ⟨rfl,ht7⟩;refine goneAny w7 ⟨rfl,PostW.err rfl (Turn2.r (Turn2.dr (Turn2.al HT1.out (.cells #[.int .i64 0,.string ⟨#[]⟩,.int .i64 0,.slice none 0 0,.int .i64 0] 29))) ht7)⟩ ?_))
  all_goals trivial
 have HM:=Lib.hid h1
 clear h1 hy
 go_wp2_with fail
 apply wp_mid5 (R:=fun A7 c7 m7 g cap w9=>AppP rb last nb w r2 (.int .i64 34) (.string ⟨#[]⟩) (.int .i64 0) (.slice (some ⟨g,0,none⟩) 1 cap) (.int .i64 ln) ([]++[x1]) w9)
 case h =>
  go_region_law (first
   | (refine step_append_row (v := .slice none 0 0) (acc:=[]) (B:=w.heap.size) (by rfl) _ _ (by rfl) (by rfl) (RowT.nil) zeroL ⟨w7.heap.size,0,none⟩ 1 1 (by rfl) (by rfl) (zero_news (by exact (Blk.new w7 29 #[.int .i64 0,.string ⟨#[]⟩,.int .i64 0,.slice none 0 0,.int .i64 0]))) zero_ok (by decide) (by simp) (by first | omega | (simp;omega)) ?_;intro g cap w8 hrow8 hgrow8 hat8 hlt8;have hrow8:RowT w.heap.size w8 ([]++[zeroT]) (.slice (some ⟨g,0,none⟩) 1 cap):=hrow8;have hn8:=(hn7.alloc (.cells #[.int .i64 0,.string ⟨#[]⟩,.int .i64 0,.slice none 0 0,.int .i64 0] 29)).grown hgrow8 (by simp [Value.ownBlock]);have hgn:g≠nb:=(by rcases hat8 with h | h;(exact absurd h (by simp [Value.ownBlock]));(first | omega | (simp at h;omega)));have hng:nb≠g:=Ne.symm hgn;have hgw:w.heap.size≤g:=(by rcases hat8 with h | h;(exact absurd h (by simp [Value.ownBlock]));(first | omega | (simp at h;omega)));have hs8:=(HS7.out.alloc (.cells #[.int .i64 0,.string ⟨#[]⟩,.int .i64 0,.slice none 0 0,.int .i64 0] 29)).grown hgrow8 (by simp [Value.ownBlock]);have ht8:=Turn2.grown (Turn2.al HT7.out (.cells #[.int .i64 0,.string ⟨#[]⟩,.int .i64 0,.slice none 0 0,.int .i64 0] 29)) hgrow8 (by simp [Value.ownBlock]);have htz8:=TrU.app (g:=g) (B:=w.heap.size) (HTX7.out.al (.cells #[.int .i64 0,.string ⟨#[]⟩,.int .i64 0,.slice none 0 0,.int .i64 0] 29)) hgrow8 (by simp [Value.ownBlock]) hat8 (by omega);obtain ⟨s8,⟨k0,k1,k2,k3,k4⟩,j0,j1,j2,j3,j4⟩:=RowT.last (acc:=[]) (n:=1) (o:=0) hrow8 rfl;obtain ⟨⟨s0,s1,s2,s3,s4⟩,r0,r1,r2,r3,r4⟩:=hn8.five)
   | (refine step_append_row (v := .slice none 0 0) (acc:=[]) (B:=w.heap.size) (by rfl) _ _ (by rfl) (by rfl) (RowT.nil) zeroL ⟨v1.heap.size,0,none⟩ 1 1 (by rfl) (by rfl) (zero_news (by exact hzb7.out)) zero_ok (by decide) (by simp) (by first | omega | (simp;omega)) ?_;intro g cap w8 hrow8 hgrow8 hat8 hlt8;have hrow8:RowT w.heap.size w8 ([]++[zeroT]) (.slice (some ⟨g,0,none⟩) 1 cap):=hrow8;have hn8:=hn7.grown hgrow8 (by simp [Value.ownBlock]);have hgn:g≠nb:=(by rcases hat8 with h | h;(exact absurd h (by simp [Value.ownBlock]));(first | omega | (simp at h;omega)));have hng:nb≠g:=Ne.symm hgn;have hgw:w.heap.size≤g:=(by rcases hat8 with h | h;(exact absurd h (by simp [Value.ownBlock]));(first | omega | (simp at h;omega)));have hs8:=HS7.out.grown hgrow8 (by simp [Value.ownBlock]);have ht8:=Turn2.grown (HT7.out) hgrow8 (by simp [Value.ownBlock]);have htz8:=TrU.app (g:=g) (B:=w.heap.size) (HTX7.out) hgrow8 (by simp [Value.ownBlock]) hat8 (by omega);obtain ⟨s8,⟨k0,k1,k2,k3,k4⟩,j0,j1,j2,j3,j4⟩:=RowT.last (acc:=[]) (n:=1) (o:=0) hrow8 rfl;obtain ⟨⟨s0,s1,s2,s3,s4⟩,r0,r1,r2,r3,r4⟩:=hn8.five)
   | (go_simp;go_at_call 159;refine (head_step R _ _ _ HSd.out HM.out).mono ?_;rintro e w7 ⟨⟨v7,rfl,hok7,d7,sl7,rfl,htr7⟩,hs7,ht7⟩;have hn7:=hn1d.tr ht7 hnr;have HT7:=Lib.hid (Turn2.r HTd.out ht7);have HTX7:=Lib.hid (htr7.weaken (B':=v1.heap.size) (Nat.le_refl _));have hwz7:v1.heap.size≤w7.heap.size:=ht7.size;obtain ⟨A7,c7,rfl⟩:=htr7.form;have HOK7:=Lib.hid hok7;have HS7:=Lib.hid hs7;obtain ⟨⟨t0,t1,t2,t3,t4⟩,u0,u1,u2,u3,u4⟩:=hn7.five;have hz7:=hn7.lt)
   | (go_simp;go_at_call 159;refine (head_step R _ _ _ (HS1.out.alloc (.cells #[.int .i64 0,.string ⟨#[]⟩,.int .i64 0,.slice none 0 0,.int .i64 0] 29)).dr HM.out).mono ?_;rintro e w7 ⟨⟨v7,rfl,hok7,d7,sl7,rfl,htr7⟩,hs7,ht7⟩;have hn7:=(HN1.out.alloc (.cells #[.int .i64 0,.string ⟨#[]⟩,.int .i64 0,.slice none 0 0,.int .i64 0] 29)).dr.tr ht7 hnr;have HT7:=Lib.hid (Turn2.r (Turn2.dr (Turn2.al HT1.out (.cells #[.int .i64 0,.string ⟨#[]⟩,.int .i64 0,.slice none 0 0,.int .i64 0] 29))) ht7);have HTX7:=Lib.hid (htr7.weaken (B':=v1.heap.size) (by show v1.heap.size≤(v1.alloc _).heap.size;rw [World.size_alloc];omega));have hwz7:v1.heap.size<w7.heap.size:=(by have h9:(v1.alloc (.cells #[.int .i64 0,.string ⟨#[]⟩,.int .i64 0,.slice none 0 0,.int .i64 0] 29)).heap.size≤w7.heap.size:=ht7.size;rw [World.size_alloc] at h9;omega);have hzb7:=Lib.hid ((Blk.new v1 29 #[.int .i64 0,.string ⟨#[]⟩,.int .i64 0,.slice none 0 0,.int .i64 0]).dr.tr ht7 (by omega));obtain ⟨A7,c7,rfl⟩:=htr7.form;have HOK7:=Lib.hid hok7;have HS7:=Lib.hid hs7;obtain ⟨⟨t0,t1,t2,t3,t4⟩,u0,u1,u2,u3,u4⟩:=hn7.five;have hz7:=hn7.lt))
  all_goals
   first
    | (have hq7:=hzb7
       obtain ⟨m7,hm7⟩ : ∃ m,m=v1.heap.size:=⟨_,rfl⟩
       rw [← hm7]
       refine ⟨A7,c7,m7,g,cap,rfl,?_⟩)
    | (obtain ⟨m7,hm7⟩ : ∃ m,m=w7.heap.size:=⟨_,rfl⟩
       rw [← hm7]
       refine ⟨A7,c7,m7,g,cap,rfl,?_⟩)
   first
    | ((with_reducible refine app_a hrb hnl hgw hs8 ht8 hn8 hrow8 (acc:=[]) (o:=0) ?_ rfl HOK7.out htz8 ?_ ?_ ?_ ?_) <;> rfl)
    | ((with_reducible refine app_b hrb hnl hgw hs8 ht8 hn8 hrow8 (acc:=[]) (o:=0) ?_ rfl HOK7.out htz8 ?_ ?_ ?_ ?_) <;> rfl)
 intro A72 c72 m72 g2 cap2 w22 hap
 have hs:=hap.st
 have ht:=hap.tn
 have hb:=hap.blk
 have hr:RowT w.heap.size w22 [x1] _:=hap.row
 clear hap
 have HS2:=Lib.hid hs
 have HT2:=Lib.hid ht
 have hn2:=hb
 have HR2:=Lib.hid hr
 clear hs ht hb hr
 clear a0 a1 a2 a3 a4 f0 f1 f2 f3 f4 hn1d HSd HTd
 have hn2d:=hn2.dr
 have hzn:nb<w22.heap.size:=hn2.lt
 obtain ⟨⟨a0,a1,a2,a3,a4⟩,f0,f1,f2,f3,f4⟩:=hn2.five
 have HN2:=Lib.hid hn2
 clear hn2
 have HSd:=Lib.hid HS2.out.dr
 have HTd:=Lib.hid (Turn2.dr HT2.out)
 have HRd:=Lib.hid HR2.out.dr
 have HOWN:=Lib.hid HR2.out.own
 have hwz:w.heap.size≤w22.heap.size:=HT2.out.size
 rcases bind_some h2 with ⟨⟨c,ln2⟩,h1,rfl⟩ | ⟨x2,r3,h1,h3⟩
 ·have HM:=Lib.hid h1
  clear h1 h2
  go_wp2_with fail
  go_region_law (first
   | (go_simp;go_at_call 160;refine (R.within _ _ _ HSd.out HM.out).mono ?_;rintro e w7 ⟨rfl,ht7⟩;refine goneAny w7 ⟨rfl,PostW.err rfl (Turn2.r HTd.out ht7)⟩ ?_)
   | (go_simp;go_at_call 160;refine (R.within _ _ _ (HS2.out.alloc (.cells #[.int .i64 0,.string ⟨#[]⟩,.int .i64 0,.slice none 0 0,.int .i64 0] 29)).dr HM.out).mono ?_;rintro e w7 ⟨rfl,ht7⟩;refine goneAny w7 ⟨rfl,PostW.err rfl (Turn2.r (Turn2.dr (Turn2.al HT2.out (.cells #[.int .i64 0,.string ⟨#[]⟩,.int .i64 0,.slice none 0 0,.int .i64 0] 29))) ht7)⟩ ?_))
  all_goals trivial
 have HM:=Lib.hid h1
 clear h1 h2
 go_wp2_with fail
 apply wp_mid5 (R:=fun A7 c7 m7 g cap w9=>AppP rb last nb w r3 (.int .i64 34) (.string ⟨#[]⟩) (.int .i64 0) (.slice (some ⟨g,0,none⟩) 2 cap) (.int .i64 ln) ([x1]++[x2]) w9)
 case h =>
  go_region_law (first
   | (refine step_append_row (v := .slice (some ⟨g2,0,none⟩) 1 cap2) (acc:=[x1]) (B:=w.heap.size) (by rfl) _ _ (by rfl) (by rfl) (HR7.out.al (.cells #[.int .i64 0,.string ⟨#[]⟩,.int .i64 0,.slice none 0 0,.int .i64 0] 29)) zeroL ⟨w7.heap.size,0,none⟩ 1 1 (by rfl) (by rfl) (zero_news (by exact (Blk.new w7 29 #[.int .i64 0,.string ⟨#[]⟩,.int .i64 0,.slice none 0 0,.int .i64 0]))) zero_ok (by decide) (by simp) (by first | omega | (simp;omega)) ?_;intro g cap w8 hrow8 hgrow8 hat8 hlt8;have hrow8:RowT w.heap.size w8 ([x1]++[zeroT]) (.slice (some ⟨g,0,none⟩) 2 cap):=hrow8;have hn8:=(hn7.alloc (.cells #[.int .i64 0,.string ⟨#[]⟩,.int .i64 0,.slice none 0 0,.int .i64 0] 29)).grown hgrow8 (fun e=>by have:=HOWN.out nb e.symm;omega);have hgn:g≠nb:=(by rcases hat8 with h | h;(have:=HOWN.out g h;omega);(first | omega | (simp at h;omega)));have hng:nb≠g:=Ne.symm hgn;have hgw:w.heap.size≤g:=(by rcases hat8 with h | h;(have:=HOWN.out g h;omega);(first | omega | (simp at h;omega)));have hs8:=(HS7.out.alloc (.cells #[.int .i64 0,.string ⟨#[]⟩,.int .i64 0,.slice none 0 0,.int .i64 0] 29)).grown hgrow8 (fun k hk=>by have:=HOWN.out k hk;omega);have ht8:=Turn2.grown (Turn2.al HT7.out (.cells #[.int .i64 0,.string ⟨#[]⟩,.int .i64 0,.slice none 0 0,.int .i64 0] 29)) hgrow8 (fun k hk=>by have:=HOWN.out k hk;omega);have htz8:=TrU.app (g:=g) (B:=w.heap.size) (HTX7.out.al (.cells #[.int .i64 0,.string ⟨#[]⟩,.int .i64 0,.slice none 0 0,.int .i64 0] 29)) hgrow8 (fun k hk=>by have:=HOWN.out k hk;omega) hat8 (by omega);obtain ⟨s8,⟨k0,k1,k2,k3,k4⟩,j0,j1,j2,j3,j4⟩:=RowT.last (acc:=[x1]) (n:=2) (o:=5) hrow8 rfl;obtain ⟨⟨s0,s1,s2,s3,s4⟩,r0,r1,r2,r3,r4⟩:=hn8.five)
   | (refine step_append_row (v := .slice (some ⟨g2,0,none⟩) 1 cap2) (acc:=[x1]) (B:=w.heap.size) (by rfl) _ _ (by rfl) (by rfl) HR7.out zeroL ⟨w22.heap.size,0,none⟩ 1 1 (by rfl) (by rfl) (zero_news (by exact hzb7.out)) zero_ok (by decide) (by simp) (by first | omega | (simp;omega)) ?_;intro g cap w8 hrow8 hgrow8 hat8 hlt8;have hrow8:RowT w.heap.size w8 ([x1]++[zeroT]) (.slice (some ⟨g,0,none⟩) 2 cap):=hrow8;have hn8:=hn7.grown hgrow8 (fun e=>by have:=HOWN.out nb e.symm;omega);have hgn:g≠nb:=(by rcases hat8 with h | h;(have:=HOWN.out g h;omega);(first | omega | (simp at h;omega)));have hng:nb≠g:=Ne.symm hgn;have hgw:w.heap.size≤g:=(by rcases hat8 with h | h;(have:=HOWN.out g h;omega);(first | omega | (simp at h;omega)));have hs8:=HS7.out.grown hgrow8 (fun k hk=>by have:=HOWN.out k hk;omega);have ht8:=Turn2.grown (HT7.out) hgrow8 (fun k hk=>by have:=HOWN.out k hk;omega);have htz8:=TrU.app (g:=g) (B:=w.heap.size) (HTX7.out) hgrow8 (fun k hk=>by have:=HOWN.out k hk;omega) hat8 (by omega);obtain ⟨s8,⟨k0,k1,k2,k3,k4⟩,j0,j1,j2,j3,j4⟩:=RowT.last (acc:=[x1]) (n:=2) (o:=5) hrow8 rfl;obtain ⟨⟨s0,s1,s2,s3,s4⟩,r0,r1,r2,r3,r4⟩:=hn8.five)
   | (go_simp;go_at_call 160;refine (R.within _ _ _ HSd.out HM.out).mono ?_;rintro e w7 ⟨⟨v7,rfl,hok7,d7,sl7,rfl,htr7⟩,hs7,ht7⟩;have hn7:=hn2d.tr ht7 hnr;have HT7:=Lib.hid (Turn2.r HTd.out ht7);have HTX7:=Lib.hid (htr7.weaken (B':=w22.heap.size) (Nat.le_refl _));have hwz7:w22.heap.size≤w7.heap.size:=ht7.size;obtain ⟨A7,c7,rfl⟩:=htr7.form;have HOK7:=Lib.hid hok7;have HS7:=Lib.hid hs7;obtain ⟨⟨t0,t1,t2,t3,t4⟩,u0,u1,u2,u3,u4⟩:=hn7.five;have hz7:=hn7.lt;have HR7:=Lib.hid (HRd.out.tr ht7 (by omega)))
   | (go_simp;go_at_call 160;refine (R.within _ _ _ (HS2.out.alloc (.cells #[.int .i64 0,.string ⟨#[]⟩,.int .i64 0,.slice none 0 0,.int .i64 0] 29)).dr HM.out).mono ?_;rintro e w7 ⟨⟨v7,rfl,hok7,d7,sl7,rfl,htr7⟩,hs7,ht7⟩;have hn7:=(HN2.out.alloc (.cells #[.int .i64 0,.string ⟨#[]⟩,.int .i64 0,.slice none 0 0,.int .i64 0] 29)).dr.tr ht7 hnr;have HT7:=Lib.hid (Turn2.r (Turn2.dr (Turn2.al HT2.out (.cells #[.int .i64 0,.string ⟨#[]⟩,.int .i64 0,.slice none 0 0,.int .i64 0] 29))) ht7);have HTX7:=Lib.hid (htr7.weaken (B':=w22.heap.size) (by show w22.heap.size≤(w22.alloc _).heap.size;rw [World.size_alloc];omega));have hwz7:w22.heap.size<w7.heap.size:=(by have h9:(w22.alloc (.cells #[.int .i64 0,.string ⟨#[]⟩,.int .i64 0,.slice none 0 0,.int .i64 0] 29)).heap.size≤w7.heap.size:=ht7.size;rw [World.size_alloc] at h9;omega);have hzb7:=Lib.hid ((Blk.new w22 29 #[.int .i64 0,.string ⟨#[]⟩,.int .i64 0,.slice none 0 0,.int .i64 0]).dr.tr ht7 (by omega));obtain ⟨A7,c7,rfl⟩:=htr7.form;have HOK7:=Lib.hid hok7;have HS7:=Lib.hid hs7;obtain ⟨⟨t0,t1,t2,t3,t4⟩,u0,u1,u2,u3,u4⟩:=hn7.five;have hz7:=hn7.lt;have HR7:=Lib.hid ((HR2.out.al (.cells #[.int .i64 0,.string ⟨#[]⟩,.int .i64 0,.slice none 0 0,.int .i64 0] 29)).dr.tr ht7 (by omega))))
  all_goals
   first
    | (have hq7:=hzb7
       obtain ⟨m7,hm7⟩ : ∃ m,m=w22.heap.size:=⟨_,rfl⟩
       rw [← hm7]
       refine ⟨A7,c7,m7,g,cap,rfl,?_⟩)
    | (obtain ⟨m7,hm7⟩ : ∃ m,m=w7.heap.size:=⟨_,rfl⟩
       rw [← hm7]
       refine ⟨A7,c7,m7,g,cap,rfl,?_⟩)
   first
    | ((with_reducible refine app_a hrb hnl hgw hs8 ht8 hn8 hrow8 (acc:=[x1]) (o:=5) ?_ rfl HOK7.out htz8 ?_ ?_ ?_ ?_) <;> rfl)
    | ((with_reducible refine app_b hrb hnl hgw hs8 ht8 hn8 hrow8 (acc:=[x1]) (o:=5) ?_ rfl HOK7.out htz8 ?_ ?_ ?_ ?_) <;> rfl)
 intro A73 c73 m73 g3 cap3 w23 hap
 have hs:=hap.st
 have ht:=hap.tn
 have hb:=hap.blk
 have hr:RowT w.heap.size w23 [x1,x2] _:=hap.row
 clear hap
 have HS3:=Lib.hid hs
 have HT3:=Lib.hid ht
 have hn3:=hb
 have HR3:=Lib.hid hr
 clear hs ht hb hr
 clear a0 a1 a2 a3 a4 f0 f1 f2 f3 f4 hn2d HSd HTd HRd HOWN
 obtain rfl:=some_ok h3
 clear h3
 go_wp2
 go_end0
 exact PostW.ok HS3.out HT3.out (nd_ok (by decide) (by decide)) hn3 (HR3.out.treesU (by simp))
end
end Go.Proofs.YtjjdmiaonkailaaGreatDoor
