/- Walks and plain laws, packed: RdXt. -/
import Derived.Test.YtjjdmiaonkailaaGreatDoorK31
import Derived.Test.YtjjdmiaonkailaaGreatDoorK23
import Derived.Test.YtjjdmiaonkailaaGreatDoorK30
import Derived.Deep.RegionHeld3
import Derived.Deep.RegionWith
import Derived.Deep.AppendLies
import Derived.BigRegion
import Derived.Deep.RegionLaw
namespace Go.Proofs.YtjjdmiaonkailaaGreatDoor
section
open Go.RowKit Go.Sort
set_option maxRecDepth 100000 in
set_option maxHeartbeats 8000000 in
theorem chain_tail {rb last f0:Nat} (R:AllR rb last f0) {w W:World} {G:Nat} (hlt:rb<w.heap.size) (hG:w.heap.size<G) (cl:Bool) (x:Tree) {A:Option Addr} {cx dx:Nat} {r:List Tl} {y:Except (Int × Int) ((Tree × Bool) × List Tl)} (hok:x.ok) (htr:TrU (G+1) W dx x.l (.slice A x.l.length cx)) (hs:St W rb last r) (ht:TurnR rb w W) (hx:Blk W G 29 #[.int .i64 x.op,.string x.s,.int .i64 x.n,.slice A x.l.length cx,.int .i64 x.line]) (hk:Blk W w.heap.size 29 zeroN) (hy:linkF (fns last f0) cl x r=some y) (a:Act) (ha:a={ tmps:=#[rdP rb,(fun i=>a.tmps.getD i undef) 1,.pointer (some ⟨w.heap.size,0,none⟩),.bool false,(fun i=>a.tmps.getD i undef) 4,.bool cl,.pointer (some ⟨G,0,none⟩),(fun i=>a.tmps.getD i undef) 7,(fun i=>a.tmps.getD i undef) 8,(fun i=>a.tmps.getD i undef) 9,(fun i=>a.tmps.getD i undef) 10,(fun i=>a.tmps.getD i undef) 11,(fun i=>a.tmps.getD i undef) 12,(fun i=>a.tmps.getD i undef) 13,(fun i=>a.tmps.getD i undef) 14,(fun i=>a.tmps.getD i undef) 15,(fun i=>a.tmps.getD i undef) 16,(fun i=>a.tmps.getD i undef) 17,(fun i=>a.tmps.getD i undef) 18,(fun i=>a.tmps.getD i undef) 19,(fun i=>a.tmps.getD i undef) 20,(fun i=>a.tmps.getD i undef) 21,(fun i=>a.tmps.getD i undef) 22,(fun i=>a.tmps.getD i undef) 23,(fun i=>a.tmps.getD i undef) 24,(fun i=>a.tmps.getD i undef) 25,(fun i=>a.tmps.getD i undef) 26,(fun i=>a.tmps.getD i undef) 27,(fun i=>a.tmps.getD i undef) 28,(fun i=>a.tmps.getD i undef) 29,(fun i=>a.tmps.getD i undef) 30,(fun i=>a.tmps.getD i undef) 31,(fun i=>a.tmps.getD i undef) 32,(fun i=>a.tmps.getD i undef) 33,(fun i=>a.tmps.getD i undef) 34,(fun i=>a.tmps.getD i undef) 35,(fun i=>a.tmps.getD i undef) 36,(fun i=>a.tmps.getD i undef) 37,(fun i=>a.tmps.getD i undef) 38,(fun i=>a.tmps.getD i undef) 39,(fun i=>a.tmps.getD i undef) 40,(fun i=>a.tmps.getD i undef) 41,(fun i=>a.tmps.getD i undef) 42,(fun i=>a.tmps.getD i undef) 43,(fun i=>a.tmps.getD i undef) 44,(fun i=>a.tmps.getD i undef) 45,(fun i=>a.tmps.getD i undef) 46,(fun i=>a.tmps.getD i undef) 47,(fun i=>a.tmps.getD i undef) 48,(fun i=>a.tmps.getD i undef) 49,(fun i=>a.tmps.getD i undef) 50,(fun i=>a.tmps.getD i undef) 51,(fun i=>a.tmps.getD i undef) 52,(fun i=>a.tmps.getD i undef) 53,(fun i=>a.tmps.getD i undef) 54,(fun i=>a.tmps.getD i undef) 55,(fun i=>a.tmps.getD i undef) 56,(fun i=>a.tmps.getD i undef) 57,(fun i=>a.tmps.getD i undef) 58,(fun i=>a.tmps.getD i undef) 59,(fun i=>a.tmps.getD i undef) 60,(fun i=>a.tmps.getD i undef) 61,(fun i=>a.tmps.getD i undef) 62,(fun i=>a.tmps.getD i undef) 63,(fun i=>a.tmps.getD i undef) 64,(fun i=>a.tmps.getD i undef) 65,(fun i=>a.tmps.getD i undef) 66,(fun i=>a.tmps.getD i undef) 67,(fun i=>a.tmps.getD i undef) 68,(fun i=>a.tmps.getD i undef) 69,(fun i=>a.tmps.getD i undef) 70,(fun i=>a.tmps.getD i undef) 71,(fun i=>a.tmps.getD i undef) 72,(fun i=>a.tmps.getD i undef) 73,(fun i=>a.tmps.getD i undef) 74,(fun i=>a.tmps.getD i undef) 75,(fun i=>a.tmps.getD i undef) 76],defers:=[] }) :
  (restC 5 (bodyC Tryz.f148)).wp Tryz.prog (bodyPost Tryz.prog Tryz.f148 (PostS rb last w (PairV w.heap.size) y)) a W:=by
 rw [ha]
 generalize (fun i=>a.tmps.getD i undef)=f
 clear ha
 unfold linkF at hy
 obtain ⟨AR,cR,hrd⟩:=hs
 have q0:=hrd.blk.cell 0
 have HS6:Hid (St W rb last r):=Lib.hid ⟨AR,cR,hrd⟩
 obtain ⟨⟨a0,a1,a2,a3,a4⟩,g0,g1,g2,g3,g4⟩:=hx.five
 have hr1:rb≠G:=by omega
 have hr2:G≠rb:=by omega
 have hr3:w.heap.size≠G:=by omega
 have hzG:=hx.lt
 have HT6:=Lib.hid ht
 have HX6:=Lib.hid hx
 have HK6:=Lib.hid hk
 have HTX6:=Lib.hid htr
 have HOK:=Lib.hid hok
 clear hx hk hrd ht htr hok
 simp only [restC,bodyC,Tryz.f148,Option.getD_some]
 rcases bind_some hy with ⟨⟨c,ln⟩,h1,rfl⟩ | ⟨z,r2,h1,h3⟩
 ·have HM:=Lib.hid h1
  clear h1 hy
  go_wp2_with fail
  refine (R.members true (G+1) _ _ _ _ _ (by omega) (Nat.succ_le_of_lt HX6.out.lt) ⟨HOK.out,dx,_,rfl,HTX6.out⟩ HS6.out HM.out).mono ?_
  rintro e w7 ⟨rfl,ht⟩
  exact ⟨rfl,PostS.err rfl (TurnR.trans HT6.out ht)⟩
 have HM:=Lib.hid h1
 clear h1 hy
 go_wp2_with fail
 refine (R.members true (G+1) _ _ _ _ _ (by omega) (Nat.succ_le_of_lt HX6.out.lt) ⟨HOK.out,dx,_,rfl,HTX6.out⟩ HS6.out HM.out).mono ?_
 rintro e w7 ⟨⟨_,rfl,hokz,dz,sl,rfl,htrz⟩,hs,ht⟩
 obtain ⟨Az,cz,rfl⟩:=htrz.form
 have HOKZ:=Lib.hid hokz
 obtain ⟨AR7,cR7,hrd⟩:=hs
 have q7:=hrd.blk.cell 0
 have hs:St w7 rb last r2:=⟨AR7,cR7,hrd⟩
 have hx7:=HX6.out.tr ht (by omega)
 have hk7:=HK6.out.tr ht (by omega)
 have HS8:=Lib.hid (hs.set5 (g:=G) (by omega) (.int .i64 z.op) (.string z.s) (.int .i64 z.n) (.slice Az z.l.length cz) (.int .i64 z.line))
 have HT8:=Lib.hid (Turn.set5 (TurnR.trans HT6.out ht) (g:=G) (by omega) (.int .i64 z.op) (.string z.s) (.int .i64 z.n) (.slice Az z.l.length cz) (.int .i64 z.line))
 have HX8:=Lib.hid (hx7.set5 (.int .i64 z.op) (.string z.s) (.int .i64 z.n) (.slice Az z.l.length cz) (.int .i64 z.line))
 have HTX8:Hid (TrU (G+1) (sets5 w7 G (.int .i64 z.op) (.string z.s) (.int .i64 z.n) (.slice Az z.l.length cz) (.int .i64 z.line)) dz z.l (.slice Az z.l.length cz)):=Lib.hid ((((((htrz).far (p:=⟨G,0,none⟩) (by simp) (.int .i64 z.op)).far (p:=⟨G,1,none⟩) (by simp) (.string z.s)).far (p:=⟨G,2,none⟩) (by simp) (.int .i64 z.n)).far (p:=⟨G,3,none⟩) (by simp) (.slice Az z.l.length cz)).far (p:=⟨G,4,none⟩) (by simp) (.int .i64 z.line))
 have HK8:Hid (Blk (sets5 w7 G (.int .i64 z.op) (.string z.s) (.int .i64 z.n) (.slice Az z.l.length cz) (.int .i64 z.line)) w.heap.size 29 zeroN):=Lib.hid ((((((hk7).far (p:=⟨G,0,none⟩) hr3 (.int .i64 z.op)).far (p:=⟨G,1,none⟩) hr3 (.string z.s)).far (p:=⟨G,2,none⟩) hr3 (.int .i64 z.n)).far (p:=⟨G,3,none⟩) hr3 (.slice Az z.l.length cz)).far (p:=⟨G,4,none⟩) hr3 (.int .i64 z.line))
 obtain ⟨⟨a0,a1,a2,a3,a4⟩,g0,g1,g2,g3,g4⟩:=hx7.five
 have h3r:=Lib.hid h3
 clear hk7 hx7 hrd hs ht hokz htrz HTX6 HX6 HK6 HM HS6 HT6 h3
 cases cl with
 | false =>
  obtain rfl:=some_ok h3r.out
  clear h3r
  go_wp2_with fail
  rename_i hKr
  have e4:bareB (false&&(r2.length==r.length)) z=(!false&&(z.op==1||z.op==13||z.op==14)):=by rfl
  refine chain_end rb w.heap.size G hr3 false z.op z.s z.n Az z.l.length cz z.line _ HX8.out HK8.out _ _ (fun a1 e1 e2 e3 => ?hx1r) _ ?hx1a
  case hx1a=>kernel_rfl
  rw [← e4] at e3
  refine hKr _ _ (wp_ret ?_)
  obtain ⟨q1,q2,q3⟩:=fin_old hlt HS8.out.dr (TurnR.dr HT8.out) HOKZ.out (TrP.dr (HTX8.out.weaken (B':=w.heap.size+1) (by omega)))
  refine ret_pair (HK8.out.dr.set5 _ _ _ _ _) rfl e1 e2 e3 ?_
  exact PostS.ok rfl ⟨_,rfl,q3⟩ q1 q2
 | true =>
  by_cases hl:r2.length=r.length
  ·have hl2:((r2.length:Int)==(r.length:Int))=true:=by rw [hl];exact beq_self_eq_true _
   have hl3:(r2.length==r.length)=true:=by simpa using hl
   clear hl
   obtain rfl:=some_ok h3r.out
   clear h3r
   go_wp2_with fail
   rename_i hKr
   have e4:bareB (true&&(r2.length==r.length)) z=(!true&&(z.op==1||z.op==13||z.op==14)):=by rw [hl3];rfl
   refine chain_end rb w.heap.size G hr3 true z.op z.s z.n Az z.l.length cz z.line _ HX8.out HK8.out _ _ (fun a1 e1 e2 e3 => ?hx2r) _ ?hx2a
   case hx2a=>kernel_rfl
   rw [← e4] at e3
   refine hKr _ _ (wp_ret ?_)
   obtain ⟨q1,q2,q3⟩:=fin_old hlt HS8.out.dr (TurnR.dr HT8.out) HOKZ.out (TrP.dr (HTX8.out.weaken (B':=w.heap.size+1) (by omega)))
   refine ret_pair (HK8.out.dr.set5 _ _ _ _ _) rfl e1 e2 e3 ?_
   exact PostS.ok rfl ⟨_,rfl,q3⟩ q1 q2
  ·have hl2:((r2.length:Int)==(r.length:Int))=false:=by simpa using (by omega:(r2.length:Int)≠r.length)
   have hl3:(r2.length==r.length)=false:=by simpa using hl
   obtain rfl:=some_ok h3r.out
   clear h3r
   go_wp2_with fail
   rename_i hKr
   have e4:bareB (true&&(r2.length==r.length)) z=(!false&&(z.op==1||z.op==13||z.op==14)):=by rw [hl3];rfl
   refine chain_end rb w.heap.size G hr3 false z.op z.s z.n Az z.l.length cz z.line _ HX8.out HK8.out _ _ (fun a1 e1 e2 e3 => ?hx3r) _ ?hx3a
   case hx3a=>kernel_rfl
   rw [← e4] at e3
   refine hKr _ _ (wp_ret ?_)
   obtain ⟨q1,q2,q3⟩:=fin_old hlt HS8.out.dr (TurnR.dr HT8.out) HOKZ.out (TrP.dr (HTX8.out.weaken (B':=w.heap.size+1) (by omega)))
   refine ret_pair (HK8.out.dr.set5 _ _ _ _ _) rfl e1 e2 e3 ?_
   exact PostS.ok rfl ⟨_,rfl,q3⟩ q1 q2
end
end Go.Proofs.YtjjdmiaonkailaaGreatDoor
