/- Walks and plain laws, packed: RdMf. -/
import Derived.Test.YtjjdmiaonkailaaGreatDoorK21
import Derived.Deep.RegionHeld3
import Derived.Deep.RegionWith
import Derived.Deep.AppendLies
import Derived.Deep.RegionLaw
namespace Go.Proofs.YtjjdmiaonkailaaGreatDoor
section
open Go.RowKit Go.Sort
set_option maxRecDepth 100000 in
set_option maxHeartbeats 4000000 in
theorem variable_word {rb last f:Nat} (R:AllR rb last f):WordC rb last f [118,97,114] 131:=by
 intro w nb ln l y hrb hn0 h hy0
 have hlt:=h.lt
 have hnl:=hn0.lt
 have hnr:nb≠rb:=by omega
 have HS0:=Lib.hid h
 have HT0:Hid (Turn2 rb nb w w):=Lib.hid (Turn.refl _ _)
 clear h
 unfold wordS at hy0
 go_enter Tryz.func131,Tryz.ntmps131
 have hy:(nameF last l).bind (fun x r=>if atF [[61]] r then ((fns last f).expr r.tail).bind fun y r2=>(endF last r2).bind fun _ q => .ok (nd 30 x [y] ln) q else (endF last r).bind fun _ q => .ok (nd 30 x [] ln) q)=some y:=hy0
 clear hy0
 have HSN:=Lib.hid HS0.out
 rcases bind_some hy with ⟨⟨c,ln2⟩,h1,rfl⟩ | ⟨s1,r1,h1,h2⟩
 ·have HM:=Lib.hid h1
  clear h1 hy
  go_wp2_with fail
  refine (name_calls _ rb last _ HS0.out _ HM.out).mono ?_
  rintro e w31 ⟨rfl,ht⟩
  exact ⟨rfl,PostW.err rfl (Turn2.r HT0.out ht)⟩
 have HM:=Lib.hid h1
 clear h1 hy
 go_wp2_with fail
 refine (name_calls _ rb last _ HS0.out _ HM.out).mono ?_
 rintro e w31 ⟨⟨v,rfl,hv⟩,hs,ht⟩
 have hv:v = .string ⟨s1.toArray⟩:=hv
 subst hv
 have HNL:=Lib.hid (name_len HSN.out HM.out)
 have HS1:=Lib.hid hs
 have HT1:=Lib.hid (Turn2.r HT0.out ht)
 have hn1:=hn0.tr ht hnr
 clear hs ht hn0
 obtain ⟨⟨a0,a1,a2,a3,a4⟩,f0,f1,f2,f3,f4⟩:=hn1.five
 have hs0':=St.set' HS1.out (g:=nb) (j:=0) hrb (.int .i64 30)
 have ht0':=Turn2.set HT1.out 0 (.int .i64 30)
 have hb0':Blk (w31.setCell ⟨nb,0,none⟩ (.int .i64 30)) nb 29 #[.int .i64 30,.string ⟨#[]⟩,.int .i64 0,.slice none 0 0,.int .i64 ln]:=by have hq:=hn1.set_ 0 (.int .i64 30);simpa using hq
 have hs1':=St.set' hs0' (g:=nb) (j:=1) hrb (.string ⟨s1.toArray⟩)
 have ht1':=Turn2.set ht0' 1 (.string ⟨s1.toArray⟩)
 have hb1':Blk ((w31.setCell ⟨nb,0,none⟩ (.int .i64 30)).setCell ⟨nb,1,none⟩ (.string ⟨s1.toArray⟩)) nb 29 #[.int .i64 30,.string ⟨s1.toArray⟩,.int .i64 0,.slice none 0 0,.int .i64 ln]:=by have hq:=hb0'.set_ 1 (.string ⟨s1.toArray⟩);simpa using hq
 have hs:=hs1'
 have ht:=ht1'
 have hb:=hb1'
 clear hs0' ht0' hb0' hs1' ht1' hb1'
 go_wp2_with fail
 clear a0 a1 a2 a3 a4 f0 f1 f2 f3 f4 hn1
 have hsz2:((w31.setCell ⟨nb,0,none⟩ (.int .i64 30)).setCell ⟨nb,1,none⟩ (.string ⟨s1.toArray⟩)).heap.size=w31.heap.size:=by simp only [World.size_setCell]
 have HH:=Lib.hid (And.intro hs (And.intro ht hb))
 clear hs ht hb
 have HH:=HH.out
 generalize (w31.setCell ⟨nb,0,none⟩ (.int .i64 30)).setCell ⟨nb,1,none⟩ (.string ⟨s1.toArray⟩)=v2 at HH hsz2 ⊢
 have HSZ2:=Lib.hid hsz2
 clear hsz2
 obtain ⟨hs,ht,hb⟩:=HH
 have HS2:=Lib.hid hs
 have HT2:=Lib.hid ht
 have hn2:=hb
 clear hs ht hb
 have h2:(if atF [[61]] r1=true then ((fns last f).expr r1.tail).bind fun y r2=>(endF last r2).bind fun _ q=>Rd.ok (nd 30 s1 [y] ln) q else (endF last r1).bind fun _ q=>Rd.ok (nd 30 s1 [] ln) q)=some y:=h2
 cases ha:atF [[61]] r1 with
 | false =>
  rw [ha,if_neg (by decide)] at h2
  go_wp2_with fail
  refine (takes1 HS2.out ⟨#[61]⟩ _ ?hx38 _ ha).mono ?_
  case hx38=>first | rfl | (have:=HSZ2.out;omega) | simp
  rintro e w32 ⟨rfl,hs,ht⟩
  have hs:St w32 rb last r1:=by simpa using hs
  have HS3:=Lib.hid hs
  have HT3:=Lib.hid (Turn2.r HT2.out ht)
  have hn3:=hn2.tr ht hnr
  clear hs ht hn2
  rcases bind_some h2 with ⟨⟨c,ln2⟩,h1,rfl⟩ | ⟨_,q,h1,h9⟩
  ·have HM:=Lib.hid h1
   clear h1 h2
   go_wp2_with fail
   refine (end_calls _ rb last _ HS3.out _ HM.out).mono ?_
   rintro e w9 ⟨rfl,ht⟩
   exact ⟨rfl,PostW.err rfl (Turn2.r HT3.out ht)⟩
  have HM:=Lib.hid h1
  clear h1 h2
  go_wp2_with fail
  refine (end_calls _ rb last _ HS3.out _ HM.out).mono ?_
  rintro e w9 ⟨⟨v,rfl,-⟩,hs,ht⟩
  have HS4:=Lib.hid hs
  have HT4:=Lib.hid (Turn2.r HT3.out ht)
  have hn4:=hn3.tr ht hnr
  clear hs ht hn3
  obtain rfl:=some_ok h9
  clear h9
  go_wp2
  go_end0
  exact PostW.ok HS4.out HT4.out (nd_ok HNL.out (by decide)) hn4 (⟨0,TrU.nil 0 none 0⟩)
 | true =>
  rw [ha,if_pos rfl] at h2
  go_wp2_with fail
  refine (takes1 HS2.out ⟨#[61]⟩ _ ?hx41 _ ha).mono ?_
  case hx41=>first | rfl | (have:=HSZ2.out;omega) | simp
  rintro e w32 ⟨rfl,hs,ht⟩
  have hs:St w32 rb last r1.tail:=by simpa using hs
  have HS3:=Lib.hid hs
  have HT3:=Lib.hid (Turn2.r HT2.out ht)
  have hn3:=hn2.tr ht hnr
  clear hs ht hn2
  have hwz:w.heap.size≤w32.heap.size:=HT3.out.size
  rcases bind_some h2 with ⟨⟨c,ln2⟩,h1,rfl⟩ | ⟨z,r2,h1,h3⟩
  ·have HM:=Lib.hid h1
   clear h1 h2
   go_wp2_with fail
   refine (R.expr _ _ _ HS3.out HM.out).mono ?_
   rintro e w33 ⟨rfl,ht⟩
   exact ⟨rfl,PostW.err rfl (Turn2.r HT3.out ht)⟩
  have HM:=Lib.hid h1
  clear h1 h2
  go_wp2_with fail
  refine (R.expr _ _ _ HS3.out HM.out).mono ?_
  rintro e w33 ⟨⟨v7,rfl,hok7,d7,sl7,rfl,htr7⟩,hs,ht⟩
  obtain ⟨A7,c7,rfl⟩:=htr7.form
  have hwz7:w32.heap.size≤w33.heap.size:=ht.size
  have HS4:=Lib.hid hs
  have HT4:=Lib.hid (Turn2.r HT3.out ht)
  have hn4:=hn3.tr ht hnr
  clear hs ht hn3
  have HR5:=Lib.hid (RowT.one (B:=w.heap.size) (by omega) hwz hok7 htr7)
  have HS5:=Lib.hid (HS4.out.alloc (.cells #[.int .i64 z.op,.string z.s,.int .i64 z.n,.slice A7 z.l.length c7,.int .i64 z.line] 29))
  have HT5:=Lib.hid (Turn2.al HT4.out (.cells #[.int .i64 z.op,.string z.s,.int .i64 z.n,.slice A7 z.l.length c7,.int .i64 z.line] 29))
  have hn5:=hn4.alloc (.cells #[.int .i64 z.op,.string z.s,.int .i64 z.n,.slice A7 z.l.length c7,.int .i64 z.line] 29)
  clear hn4 hok7 htr7
  obtain ⟨⟨a0,a1,a2,a3,a4⟩,f0,f1,f2,f3,f4⟩:=hn5.five
  have hs0':=St.set' HS5.out (g:=nb) (j:=3) hrb (.slice (some ⟨w33.heap.size,0,none⟩) 1 1)
  have ht0':=Turn2.set HT5.out 3 (.slice (some ⟨w33.heap.size,0,none⟩) 1 1)
  have hb0':Blk ((w33.alloc (.cells #[.int .i64 z.op,.string z.s,.int .i64 z.n,.slice A7 z.l.length c7,.int .i64 z.line] 29)).setCell ⟨nb,3,none⟩ (.slice (some ⟨w33.heap.size,0,none⟩) 1 1)) nb 29 #[.int .i64 30,.string ⟨s1.toArray⟩,.int .i64 0,.slice (some ⟨w33.heap.size,0,none⟩) 1 1,.int .i64 ln]:=by have hq:=hn5.set_ 3 (.slice (some ⟨w33.heap.size,0,none⟩) 1 1);simpa using hq
  have hr0':=RowT.far HR5.out (p:=⟨nb,3,none⟩) hnl (.slice (some ⟨w33.heap.size,0,none⟩) 1 1)
  have hs:=hs0'
  have ht:=ht0'
  have hb:=hb0'
  have hr:=hr0'
  clear hs0' ht0' hb0' hr0'
  go_wp2_with fail
  clear a0 a1 a2 a3 a4 f0 f1 f2 f3 f4 hn5
  have hsz6:((w33.alloc (.cells #[.int .i64 z.op,.string z.s,.int .i64 z.n,.slice A7 z.l.length c7,.int .i64 z.line] 29)).setCell ⟨nb,3,none⟩ (.slice (some ⟨w33.heap.size,0,none⟩) 1 1)).heap.size=(w33.alloc (.cells #[.int .i64 z.op,.string z.s,.int .i64 z.n,.slice A7 z.l.length c7,.int .i64 z.line] 29)).heap.size:=by simp only [World.size_setCell]
  have HH:=Lib.hid (And.intro hs (And.intro ht (And.intro hb hr)))
  clear hs ht hb hr
  have HH:=HH.out
  generalize (w33.alloc (.cells #[.int .i64 z.op,.string z.s,.int .i64 z.n,.slice A7 z.l.length c7,.int .i64 z.line] 29)).setCell ⟨nb,3,none⟩ (.slice (some ⟨w33.heap.size,0,none⟩) 1 1)=v6 at HH hsz6 ⊢
  have HSZ6:=Lib.hid hsz6
  clear hsz6
  obtain ⟨hs,ht,hb,hr⟩:=HH
  have HS6:=Lib.hid hs
  have HT6:=Lib.hid ht
  have hn6:=hb
  have HR6:=Lib.hid hr
  clear hs ht hb hr
  rcases bind_some h3 with ⟨⟨c,ln2⟩,h1,rfl⟩ | ⟨_,q,h1,h9⟩
  ·have HM:=Lib.hid h1
   clear h1 h3
   go_wp2_with fail
   refine (end_calls _ rb last _ HS6.out _ HM.out).mono ?_
   rintro e w9 ⟨rfl,ht⟩
   exact ⟨rfl,PostW.err rfl (Turn2.r HT6.out ht)⟩
  have HM:=Lib.hid h1
  clear h1 h3
  go_wp2_with fail
  refine (end_calls _ rb last _ HS6.out _ HM.out).mono ?_
  rintro e w9 ⟨⟨v,rfl,-⟩,hs,ht⟩
  have HS7:=Lib.hid hs
  have HT7:=Lib.hid (Turn2.r HT6.out ht)
  have hn7:=hn6.tr ht hnr
  have HR7:=Lib.hid (HR6.out.tr ht (by omega))
  clear hs ht hn6
  obtain rfl:=some_ok h9
  clear h9
  go_wp2
  go_end0
  exact PostW.ok HS7.out HT7.out (nd_ok HNL.out (by decide)) hn7 (HR7.out.treesU (by simp))
set_option maxRecDepth 100000 in
set_option maxHeartbeats 2000000 in
theorem function_word {rb last f:Nat} (R:AllR rb last f):WordC rb last f [102,117,110,99,116,105,111,110] 140:=by
 intro w nb ln l y hrb hn0 h hy0
 have hlt:=h.lt
 have hnl:=hn0.lt
 have hnr:nb≠rb:=by omega
 have HS0:=Lib.hid h
 have HT0:Hid (Turn2 rb nb w w):=Lib.hid (Turn.refl _ _)
 clear h
 unfold wordS at hy0
 go_enter Tryz.func140,Tryz.ntmps140
 have hy:(nameF last l).bind (fun x r=>((fns last f).rest r).bind fun ps q => .ok (nd 41 x ps ln) q)=some y:=hy0
 clear hy0
 have HSN:=Lib.hid HS0.out
 rcases bind_some hy with ⟨⟨c,ln2⟩,h1,rfl⟩ | ⟨s1,r1,h1,h2⟩
 ·have HM:=Lib.hid h1
  clear h1 hy
  go_wp2_with fail
  refine (name_calls _ rb last _ HS0.out _ HM.out).mono ?_
  rintro e w31 ⟨rfl,ht⟩
  exact ⟨rfl,PostW.err rfl (Turn2.r HT0.out ht)⟩
 have HM:=Lib.hid h1
 clear h1 hy
 go_wp2_with fail
 refine (name_calls _ rb last _ HS0.out _ HM.out).mono ?_
 rintro e w31 ⟨⟨v,rfl,hv⟩,hs,ht⟩
 have hv:v = .string ⟨s1.toArray⟩:=hv
 subst hv
 have HNL:=Lib.hid (name_len HSN.out HM.out)
 have HS1:=Lib.hid hs
 have HT1:=Lib.hid (Turn2.r HT0.out ht)
 have hn1:=hn0.tr ht hnr
 clear hs ht hn0
 obtain ⟨⟨a0,a1,a2,a3,a4⟩,f0,f1,f2,f3,f4⟩:=hn1.five
 have hs0':=St.set' HS1.out (g:=nb) (j:=0) hrb (.int .i64 41)
 have ht0':=Turn2.set HT1.out 0 (.int .i64 41)
 have hb0':Blk (w31.setCell ⟨nb,0,none⟩ (.int .i64 41)) nb 29 #[.int .i64 41,.string ⟨#[]⟩,.int .i64 0,.slice none 0 0,.int .i64 ln]:=by have hq:=hn1.set_ 0 (.int .i64 41);simpa using hq
 have hs1':=St.set' hs0' (g:=nb) (j:=1) hrb (.string ⟨s1.toArray⟩)
 have ht1':=Turn2.set ht0' 1 (.string ⟨s1.toArray⟩)
 have hb1':Blk ((w31.setCell ⟨nb,0,none⟩ (.int .i64 41)).setCell ⟨nb,1,none⟩ (.string ⟨s1.toArray⟩)) nb 29 #[.int .i64 41,.string ⟨s1.toArray⟩,.int .i64 0,.slice none 0 0,.int .i64 ln]:=by have hq:=hb0'.set_ 1 (.string ⟨s1.toArray⟩);simpa using hq
 have hs:=hs1'
 have ht:=ht1'
 have hb:=hb1'
 clear hs0' ht0' hb0' hs1' ht1' hb1'
 go_wp2_with fail
 clear a0 a1 a2 a3 a4 f0 f1 f2 f3 f4 hn1
 have hsz2:((w31.setCell ⟨nb,0,none⟩ (.int .i64 41)).setCell ⟨nb,1,none⟩ (.string ⟨s1.toArray⟩)).heap.size=w31.heap.size:=by simp only [World.size_setCell]
 have HH:=Lib.hid (And.intro hs (And.intro ht hb))
 clear hs ht hb
 have HH:=HH.out
 generalize (w31.setCell ⟨nb,0,none⟩ (.int .i64 41)).setCell ⟨nb,1,none⟩ (.string ⟨s1.toArray⟩)=v2 at HH hsz2 ⊢
 have HSZ2:=Lib.hid hsz2
 clear hsz2
 obtain ⟨hs,ht,hb⟩:=HH
 have HS2:=Lib.hid hs
 have HT2:=Lib.hid ht
 have hn2:=hb
 clear hs ht hb
 have hwz:w.heap.size≤v2.heap.size:=HT2.out.size
 rcases bind_some h2 with ⟨⟨c,ln2⟩,h1,rfl⟩ | ⟨ps,r2,h1,h3⟩
 ·have HM:=Lib.hid h1
  clear h1 h2
  go_wp2_with fail
  refine (R.rest _ _ _ HS2.out HM.out).mono ?_
  rintro e w33 ⟨rfl,ht⟩
  exact ⟨rfl,PostW.err rfl (Turn2.r HT2.out ht)⟩
 have HM:=Lib.hid h1
 clear h1 h2
 go_wp2_with fail
 refine (R.rest _ _ _ HS2.out HM.out).mono ?_
 rintro e w33 ⟨⟨v7,rfl,hrow7,hlen7⟩,hs,ht⟩
 obtain ⟨A7,c7,rfl⟩:=hrow7.form
 have HS3:=Lib.hid hs
 have HT3:=Lib.hid (Turn2.r HT2.out ht)
 have hn3:=hn2.tr ht hnr
 clear hs ht hn2
 have HR3:=Lib.hid (hrow7.weaken hwz)
 clear hrow7
 obtain ⟨⟨a0,a1,a2,a3,a4⟩,f0,f1,f2,f3,f4⟩:=hn3.five
 have hs0':=St.set' HS3.out (g:=nb) (j:=3) hrb (.slice A7 ps.length c7)
 have ht0':=Turn2.set HT3.out 3 (.slice A7 ps.length c7)
 have hb0':Blk (w33.setCell ⟨nb,3,none⟩ (.slice A7 ps.length c7)) nb 29 #[.int .i64 41,.string ⟨s1.toArray⟩,.int .i64 0,.slice A7 ps.length c7,.int .i64 ln]:=by have hq:=hn3.set_ 3 (.slice A7 ps.length c7);simpa using hq
 have hr0':=RowT.far HR3.out (p:=⟨nb,3,none⟩) hnl (.slice A7 ps.length c7)
 have hs:=hs0'
 have ht:=ht0'
 have hb:=hb0'
 have hr:=hr0'
 clear hs0' ht0' hb0' hr0'
 go_wp2_with fail
 obtain rfl:=some_ok h3
 clear h3
 have HH:=Lib.hid (And.intro hs (And.intro ht (And.intro hb hr)))
 clear hs ht hb hr
 go_end0
 exact PostW.ok HH.out.1 HH.out.2.1 (nd_ok HNL.out (by decide)) HH.out.2.2.1 (HH.out.2.2.2.treesU (by omega))
end
end Go.Proofs.YtjjdmiaonkailaaGreatDoor
