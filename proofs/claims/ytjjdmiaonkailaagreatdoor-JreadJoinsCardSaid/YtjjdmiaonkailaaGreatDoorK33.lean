/- Walks and plain laws, packed: RdX, RdV. -/
import Derived.Test.YtjjdmiaonkailaaGreatDoorK32
import Derived.Test.YtjjdmiaonkailaaGreatDoorK25
import Derived.Deep.RegionHeld3
import Derived.Deep.RegionWith
import Derived.Deep.AppendLies
import Derived.BigRegion
import Derived.Deep.RegionLaw
import Derived.Test.YtjjdmiaonkailaaGreatDoorK21
namespace Go.Proofs.YtjjdmiaonkailaaGreatDoor
section
open Go.RowKit Go.Sort
set_option maxRecDepth 100000 in
set_option maxHeartbeats 8000000 in
theorem chain_step {rb last f:Nat} (R:AllR rb last f) (HA:ArgsC rb last f) (w:World) (l:List Tl) (y:Except (Int × Int) ((Tree × Bool) × List Tl)) (h:St w rb last l) (hy:chainS last (fns last f) l=some y) :
  Calls Tryz.prog 148 #[rdP rb] w (PostS rb last w (PairV w.heap.size) y):=by
 have f3:=field_tok3
 have hlt:=h.lt
 have HS0:=Lib.hid (h.alloc (.cells zeroN 29))
 have hk0:=Blk.new w 29 zeroN
 have HT0:=Lib.hid (alloc_turn w rb (.cells zeroN 29))
 have hz0:w.heap.size+1≤(w.alloc (.cells zeroN 29)).heap.size:=by simp
 unfold chainS at hy
 clear h
 go_enter Tryz.func148,Tryz.ntmps148
 go_wp2_with fail
 refine (here_calls _ rb last _ HS0.out).mono ?_
 rintro e w2 ⟨rfl,hb⟩
 unfold tokV
 have ht:=turn_below (rb:=rb) hb
 have hs:=HS0.out.below hb
 clear hb
 have HS1:=Lib.hid hs
 have HT1:=Lib.hid (TurnR.trans HT0.out ht)
 have hk1:=hk0.tr ht (by omega)
 have hlhk1:=hk1.lt
 clear ht hs hk0
 obtain ⟨cl,hcl⟩ : ∃ b,atF [[40]] l=b:=⟨_,rfl⟩
 rw [hcl] at hy
 go_wp2_with fail
 refine (isAt1 HS1.out ⟨#[40]⟩ _ ?hx4 _ hcl).mono ?_
 case hx4=>simp
 rintro e w3 ⟨rfl,hb⟩
 have ht:=turn_below (rb:=rb) hb
 have hs:=HS1.out.below hb
 clear hb
 have HS2:=Lib.hid hs
 have HT2:=Lib.hid (TurnR.trans HT1.out ht)
 have hk2:=hk1.tr ht (by omega)
 have hlhk2:=hk2.lt
 clear ht hs hk1
 have hz3:w.heap.size<w3.heap.size:=by omega
 have HS3:=Lib.hid (HS2.out.alloc (.cells zeroN 29))
 have HT3:=Lib.hid (TurnR.al HT2.out (.cells zeroN 29))
 have hk3:=hk2.alloc (.cells zeroN 29)
 have hx3:=Blk.new w3 29 zeroN
 clear hk2
 have hlhx4:=hx3.lt
 have HMK:Hid (∀ W:World,w3.heap.size<W.heap.size→True):=Lib.hid fun _ _=>trivial
 cases ha:atF [[110,101,119]] l with
 | false =>
  rw [ha,if_neg (by decide)] at hy
  go_wp2_with fail
  refine (takes1 HS3.out ⟨#[110,101,119]⟩ _ ?hx5 _ ha).mono ?_
  case hx5=>simp
  rintro e w4 ⟨rfl,hs,ht⟩
  have hs:St w4 rb last l:=by simpa using hs
  have HS4:=Lib.hid hs
  have HT4:=Lib.hid (TurnR.trans HT3.out ht)
  have hk4:=hk3.tr ht (by omega)
  have hx4:=hx3.tr ht (by omega)
  have hlhk4:=hk4.lt
  have hlhx4:=hx4.lt
  clear ht hs hk3 hx3
  rcases bind_some hy with ⟨⟨c,ln⟩,h1,rfl⟩ | ⟨x,r,h1,h2⟩
  ·have HM:=Lib.hid h1
   clear h1 hy
   go_wp2_with fail
   refine (R.thing _ _ _ HS4.out HM.out).mono ?_
   rintro e w5 ⟨rfl,ht⟩
   exact ⟨rfl,PostS.err rfl (TurnR.trans HT4.out ht)⟩
  have HM:=Lib.hid h1
  clear h1 hy
  go_wp2_with fail
  refine (R.thing _ _ _ HS4.out HM.out).mono ?_
  rintro e w5 ⟨⟨_,rfl,hok,dx,sl,rfl,htr⟩,hs,ht⟩
  obtain ⟨A,cx,rfl⟩:=htr.form
  have HOK:=Lib.hid hok
  have HTX5:=Lib.hid (htr.weaken (B':=w3.heap.size+1) (by omega))
  clear hok htr
  have HS5:=Lib.hid hs
  have HT5:=Lib.hid (TurnR.trans HT4.out ht)
  have hk5:=hk4.tr ht (by omega)
  have hx5:=hx4.tr ht (by omega)
  have hlhk5:=hk5.lt
  have hlhx5:=hx5.lt
  clear ht hs hk4 hx4
  have HYT:=Lib.hid h2
  obtain ⟨⟨a0,a1,a2,a3,a4⟩,g0,g1,g2,g3,g4⟩:=hx5.five
  have hr3:w.heap.size≠w3.heap.size:=by omega
  have HS6:=Lib.hid (HS5.out.set5 (g:=w3.heap.size) (by omega) (.int .i64 x.op) (.string x.s) (.int .i64 x.n) (.slice A x.l.length cx) (.int .i64 x.line))
  have HT6:=Lib.hid (Turn.set5 HT5.out (g:=w3.heap.size) (by omega) (.int .i64 x.op) (.string x.s) (.int .i64 x.n) (.slice A x.l.length cx) (.int .i64 x.line))
  have HX6:=Lib.hid (hx5.set5 (.int .i64 x.op) (.string x.s) (.int .i64 x.n) (.slice A x.l.length cx) (.int .i64 x.line))
  have HTX6:Hid (TrU (w3.heap.size+1) (sets5 w5 w3.heap.size (.int .i64 x.op) (.string x.s) (.int .i64 x.n) (.slice A x.l.length cx) (.int .i64 x.line)) dx x.l (.slice A x.l.length cx)):=Lib.hid ((((((HTX5.out).far (p:=⟨w3.heap.size,0,none⟩) (by simp) (.int .i64 x.op)).far (p:=⟨w3.heap.size,1,none⟩) (by simp) (.string x.s)).far (p:=⟨w3.heap.size,2,none⟩) (by simp) (.int .i64 x.n)).far (p:=⟨w3.heap.size,3,none⟩) (by simp) (.slice A x.l.length cx)).far (p:=⟨w3.heap.size,4,none⟩) (by simp) (.int .i64 x.line))
  have HK6:Hid (Blk (sets5 w5 w3.heap.size (.int .i64 x.op) (.string x.s) (.int .i64 x.n) (.slice A x.l.length cx) (.int .i64 x.line)) w.heap.size 29 zeroN):=Lib.hid ((((((hk5).far (p:=⟨w3.heap.size,0,none⟩) hr3 (.int .i64 x.op)).far (p:=⟨w3.heap.size,1,none⟩) hr3 (.string x.s)).far (p:=⟨w3.heap.size,2,none⟩) hr3 (.int .i64 x.n)).far (p:=⟨w3.heap.size,3,none⟩) hr3 (.slice A x.l.length cx)).far (p:=⟨w3.heap.size,4,none⟩) hr3 (.int .i64 x.line))
  have HY:=Lib.hid h2
  clear hx5 hk5 h2
  rename_i K1 hK1 K2 hK2
  have TL:Hid (∀ a1:Act,a1={ tmps:=#[rdP rb,(fun i=>a1.tmps.getD i undef) 1,.pointer (some ⟨w.heap.size,0,none⟩),.bool false,(fun i=>a1.tmps.getD i undef) 4,.bool cl,.pointer (some ⟨w3.heap.size,0,none⟩),(fun i=>a1.tmps.getD i undef) 7,(fun i=>a1.tmps.getD i undef) 8,(fun i=>a1.tmps.getD i undef) 9,(fun i=>a1.tmps.getD i undef) 10,(fun i=>a1.tmps.getD i undef) 11,(fun i=>a1.tmps.getD i undef) 12,(fun i=>a1.tmps.getD i undef) 13,(fun i=>a1.tmps.getD i undef) 14,(fun i=>a1.tmps.getD i undef) 15,(fun i=>a1.tmps.getD i undef) 16,(fun i=>a1.tmps.getD i undef) 17,(fun i=>a1.tmps.getD i undef) 18,(fun i=>a1.tmps.getD i undef) 19,(fun i=>a1.tmps.getD i undef) 20,(fun i=>a1.tmps.getD i undef) 21,(fun i=>a1.tmps.getD i undef) 22,(fun i=>a1.tmps.getD i undef) 23,(fun i=>a1.tmps.getD i undef) 24,(fun i=>a1.tmps.getD i undef) 25,(fun i=>a1.tmps.getD i undef) 26,(fun i=>a1.tmps.getD i undef) 27,(fun i=>a1.tmps.getD i undef) 28,(fun i=>a1.tmps.getD i undef) 29,(fun i=>a1.tmps.getD i undef) 30,(fun i=>a1.tmps.getD i undef) 31,(fun i=>a1.tmps.getD i undef) 32,(fun i=>a1.tmps.getD i undef) 33,(fun i=>a1.tmps.getD i undef) 34,(fun i=>a1.tmps.getD i undef) 35,(fun i=>a1.tmps.getD i undef) 36,(fun i=>a1.tmps.getD i undef) 37,(fun i=>a1.tmps.getD i undef) 38,(fun i=>a1.tmps.getD i undef) 39,(fun i=>a1.tmps.getD i undef) 40,(fun i=>a1.tmps.getD i undef) 41,(fun i=>a1.tmps.getD i undef) 42,(fun i=>a1.tmps.getD i undef) 43,(fun i=>a1.tmps.getD i undef) 44,(fun i=>a1.tmps.getD i undef) 45,(fun i=>a1.tmps.getD i undef) 46,(fun i=>a1.tmps.getD i undef) 47,(fun i=>a1.tmps.getD i undef) 48,(fun i=>a1.tmps.getD i undef) 49,(fun i=>a1.tmps.getD i undef) 50,(fun i=>a1.tmps.getD i undef) 51,(fun i=>a1.tmps.getD i undef) 52,(fun i=>a1.tmps.getD i undef) 53,(fun i=>a1.tmps.getD i undef) 54,(fun i=>a1.tmps.getD i undef) 55,(fun i=>a1.tmps.getD i undef) 56,(fun i=>a1.tmps.getD i undef) 57,(fun i=>a1.tmps.getD i undef) 58,(fun i=>a1.tmps.getD i undef) 59,(fun i=>a1.tmps.getD i undef) 60,(fun i=>a1.tmps.getD i undef) 61,(fun i=>a1.tmps.getD i undef) 62,(fun i=>a1.tmps.getD i undef) 63,(fun i=>a1.tmps.getD i undef) 64,(fun i=>a1.tmps.getD i undef) 65,(fun i=>a1.tmps.getD i undef) 66,(fun i=>a1.tmps.getD i undef) 67,(fun i=>a1.tmps.getD i undef) 68,(fun i=>a1.tmps.getD i undef) 69,(fun i=>a1.tmps.getD i undef) 70,(fun i=>a1.tmps.getD i undef) 71,(fun i=>a1.tmps.getD i undef) 72,(fun i=>a1.tmps.getD i undef) 73,(fun i=>a1.tmps.getD i undef) 74,(fun i=>a1.tmps.getD i undef) 75,(fun i=>a1.tmps.getD i undef) 76],defers:=[] }→K1 a1 (sets5 w5 w3.heap.size (.int .i64 x.op) (.string x.s) (.int .i64 x.n) (.slice A x.l.length cx) (.int .i64 x.line))):=Lib.hid fun a1 ha1=>hK1 _ _ (chain_tail R hlt hz3 cl x HOK.out HTX6.out HS6.out HT6.out HX6.out HK6.out HY.out a1 ha1)
  clear hK1
  go_wp2
  exact TL.out _ (by kernel_rfl)
 | true =>
  rw [ha,if_pos rfl] at hy
  go_wp2_with fail
  refine (takes1 HS3.out ⟨#[110,101,119]⟩ _ ?hx7 _ ha).mono ?_
  case hx7=>simp
  rintro e w4 ⟨rfl,hs,ht⟩
  replace hs:St w4 rb last l.tail:=by simpa using hs
  have HS4:=Lib.hid hs
  have HT4:=Lib.hid (TurnR.trans HT3.out ht)
  have hk4:=hk3.tr ht (by omega)
  have hx4:=hx3.tr ht (by omega)
  have hlhk4:=hk4.lt
  have hlhx4:=hx4.lt
  clear ht hs hk3 hx3
  rcases bind_some hy with ⟨⟨c,ln⟩,h1,rfl⟩ | ⟨x,r,h1,h2⟩
  ·have HM:=Lib.hid h1
   clear h1 hy
   go_wp2_with fail
   refine (R.thing _ _ _ HS4.out HM.out).mono ?_
   rintro e w5 ⟨rfl,ht⟩
   exact ⟨rfl,PostS.err rfl (TurnR.trans HT4.out ht)⟩
  have HM:=Lib.hid h1
  clear h1 hy
  go_wp2_with fail
  refine (R.thing _ _ _ HS4.out HM.out).mono ?_
  rintro e w5 ⟨⟨_,rfl,hok,dx,sl,rfl,htr⟩,hs,ht⟩
  obtain ⟨A,cx,rfl⟩:=htr.form
  have HOK:=Lib.hid hok
  have HTX5:=Lib.hid (htr.weaken (B':=w3.heap.size+1) (by omega))
  clear hok htr
  have HS5:=Lib.hid hs
  have HT5:=Lib.hid (TurnR.trans HT4.out ht)
  have hk5:=hk4.tr ht (by omega)
  have hx5:=hx4.tr ht (by omega)
  have hlhk5:=hk5.lt
  have hlhx5:=hx5.lt
  clear ht hs hk4 hx4
  rcases bind_some h2 with ⟨⟨c,ln⟩,h1,rfl⟩ | ⟨u,r2,h1,h3⟩
  ·have HM:=Lib.hid h1
   clear h1 h2
   go_wp2_with fail
   refine (R.members false (w3.heap.size+1) _ _ _ _ _ (by omega) (by omega) ⟨HOK.out,dx,_,rfl,HTX5.out⟩ HS5.out HM.out).mono ?_
   rintro e w6 ⟨rfl,ht⟩
   exact ⟨rfl,PostS.err rfl (TurnR.trans HT5.out ht)⟩
  have HM:=Lib.hid h1
  clear h1 h2
  go_wp2_with fail
  refine (R.members false (w3.heap.size+1) _ _ _ _ _ (by omega) (by omega) ⟨HOK.out,dx,_,rfl,HTX5.out⟩ HS5.out HM.out).mono ?_
  rintro e w6 ⟨⟨_,rfl,hoku,du,sl,rfl,htru⟩,hs,ht⟩
  obtain ⟨Au,cu,rfl⟩:=htru.form
  have HOKU:=Lib.hid hoku
  have HTU:=Lib.hid htru
  clear hoku htru HTX5 HOK
  have HS6:=Lib.hid hs
  have HT6:=Lib.hid (TurnR.trans HT5.out ht)
  have hk6:=hk5.tr ht (by omega)
  have hx6:=hx5.tr ht (by omega)
  have hlhk6:=hk6.lt
  have hlhx6:=hx6.lt
  clear ht hs hk5 hx5
  have hr3:w.heap.size≠w3.heap.size:=by omega
  obtain ⟨⟨a0,a1,a2,a3,a4⟩,g0,g1,g2,g3,g4⟩:=hx6.five
  have htu6:TrU (w3.heap.size+1) (sets5 w6 w3.heap.size (.int .i64 16) (.string ⟨#[]⟩) (.int .i64 0) (.slice (some ⟨w6.heap.size,0,none⟩) 1 1) (.int .i64 (hereF last l).line)) du u.l (.slice Au u.l.length cu):=(((((HTU.out).far (p:=⟨w3.heap.size,0,none⟩) (by simp) (.int .i64 16)).far (p:=⟨w3.heap.size,1,none⟩) (by simp) (.string ⟨#[]⟩)).far (p:=⟨w3.heap.size,2,none⟩) (by simp) (.int .i64 0)).far (p:=⟨w3.heap.size,3,none⟩) (by simp) (.slice (some ⟨w6.heap.size,0,none⟩) 1 1)).far (p:=⟨w3.heap.size,4,none⟩) (by simp) (.int .i64 (hereF last l).line)
  have hkn:Blk (sets5 w6 w3.heap.size (.int .i64 16) (.string ⟨#[]⟩) (.int .i64 0) (.slice (some ⟨w6.heap.size,0,none⟩) 1 1) (.int .i64 (hereF last l).line)) w.heap.size 29 zeroN:=(((((hk6).far (p:=⟨w3.heap.size,0,none⟩) hr3 (.int .i64 16)).far (p:=⟨w3.heap.size,1,none⟩) hr3 (.string ⟨#[]⟩)).far (p:=⟨w3.heap.size,2,none⟩) hr3 (.int .i64 0)).far (p:=⟨w3.heap.size,3,none⟩) hr3 (.slice (some ⟨w6.heap.size,0,none⟩) 1 1)).far (p:=⟨w3.heap.size,4,none⟩) hr3 (.int .i64 (hereF last l).line)
  have hxn:=hx6.set5 (.int .i64 16) (.string ⟨#[]⟩) (.int .i64 0) (.slice (some ⟨w6.heap.size,0,none⟩) 1 1) (.int .i64 (hereF last l).line)
  have hsn:=HS6.out.set5 (g:=w3.heap.size) (by omega) (.int .i64 16) (.string ⟨#[]⟩) (.int .i64 0) (.slice (some ⟨w6.heap.size,0,none⟩) 1 1) (.int .i64 (hereF last l).line)
  have htn:=Turn.set5 HT6.out (g:=w3.heap.size) (by omega) (.int .i64 16) (.string ⟨#[]⟩) (.int .i64 0) (.slice (some ⟨w6.heap.size,0,none⟩) 1 1) (.int .i64 (hereF last l).line)
  have hz66:(sets5 w6 w3.heap.size (.int .i64 16) (.string ⟨#[]⟩) (.int .i64 0) (.slice (some ⟨w6.heap.size,0,none⟩) 1 1) (.int .i64 (hereF last l).line)).heap.size=w6.heap.size:=by simp [sets5]
  have hpn:RowP (fun k=>w3.heap.size+1≤k) (w3.heap.size+1) ((sets5 w6 w3.heap.size (.int .i64 16) (.string ⟨#[]⟩) (.int .i64 0) (.slice (some ⟨w6.heap.size,0,none⟩) 1 1) (.int .i64 (hereF last l).line)).alloc (.cells #[.int .i64 u.op,.string u.s,.int .i64 u.n,.slice Au u.l.length cu,.int .i64 u.line] 29)) [u] (.slice (some ⟨w6.heap.size,0,none⟩) 1 1):=by have h:=RowP.one (Bk:=fun k=>w3.heap.size+1≤k) (B:=w3.heap.size+1) (w5:=sets5 w6 w3.heap.size (.int .i64 16) (.string ⟨#[]⟩) (.int .i64 0) (.slice (some ⟨w6.heap.size,0,none⟩) 1 1) (.int .i64 (hereF last l).line)) (by rw [hz66];omega) HOKU.out htu6;rw [hz66] at h;exact h
  have HSN:=Lib.hid (hsn.alloc (.cells #[.int .i64 u.op,.string u.s,.int .i64 u.n,.slice Au u.l.length cu,.int .i64 u.line] 29))
  have HTN:=Lib.hid (TurnR.al htn (.cells #[.int .i64 u.op,.string u.s,.int .i64 u.n,.slice Au u.l.length cu,.int .i64 u.line] 29))
  have HXN:=Lib.hid (hxn.alloc (.cells #[.int .i64 u.op,.string u.s,.int .i64 u.n,.slice Au u.l.length cu,.int .i64 u.line] 29))
  have HKN:=Lib.hid (hkn.alloc (.cells #[.int .i64 u.op,.string u.s,.int .i64 u.n,.slice Au u.l.length cu,.int .i64 u.line] 29))
  have HPN:=Lib.hid hpn
  have HZN:Hid (((sets5 w6 w3.heap.size (.int .i64 16) (.string ⟨#[]⟩) (.int .i64 0) (.slice (some ⟨w6.heap.size,0,none⟩) 1 1) (.int .i64 (hereF last l).line)).alloc (.cells #[.int .i64 u.op,.string u.s,.int .i64 u.n,.slice Au u.l.length cu,.int .i64 u.line] 29)).heap.size=w6.heap.size+1):=Lib.hid (by simp [sets5])
  have HH:=Lib.hid (And.intro HSN.out (And.intro HTN.out (And.intro HXN.out (And.intro HKN.out (And.intro HPN.out HZN.out)))))
  have HE6:Hid (w3.heap.size<w6.heap.size):=Lib.hid (by omega)
  clear hx6 hk6 htu6 hkn hxn hsn htn hz66 hpn HSN HTN HXN HKN HPN HZN HM HTU
  cases hb:atF [[40]] r2 with
  | false =>
   rw [hb,if_neg (by decide)] at h3
   go_wp2_with fail
   have HH:=HH.out
   clear a0 a1 a2 a3 a4 g0 g1 g2 g3 g4
   unfold sets5 at HH
   generalize (((((w6.setCell ⟨w3.heap.size,0,none⟩ (.int .i64 16)).setCell ⟨w3.heap.size,1,none⟩ (.string ⟨#[]⟩)).setCell ⟨w3.heap.size,2,none⟩ (.int .i64 0)).setCell ⟨w3.heap.size,3,none⟩ (.slice (some ⟨w6.heap.size,0,none⟩) 1 1)).setCell ⟨w3.heap.size,4,none⟩ (.int .i64 (hereF last l).line)).alloc (.cells #[.int .i64 u.op,.string u.s,.int .i64 u.n,.slice Au u.l.length cu,.int .i64 u.line] 29)=w7 at HH ⊢
   obtain ⟨hs7,ht7,hx7,hk7,hp7,hz7⟩:=HH
   refine (takes1 hs7 ⟨#[40]⟩ _ ?hx10 _ hb).mono ?_
   case hx10=>rw [hz7]
   rintro e w8 ⟨rfl,hs,ht⟩
   replace hs:St w8 rb last r2:=by simpa using hs
   have HS8:=Lib.hid hs
   have HT8:=Lib.hid (TurnR.trans ht7 ht)
   have HX8:=Lib.hid (hx7.tr ht (by omega))
   have HK8:=Lib.hid (hk7.tr ht (by omega))
   have HP8:=Lib.hid (hp7.tr ht (by omega) (by omega))
   have hz8:w3.heap.size<w8.heap.size:=HX8.out.lt
   have he8:=(HP8.out.own _ rfl).2
   clear hs ht hs7 ht7 hx7 hk7 hp7
   rename_i K1 hK1 K2 hK2 K3 hK3
   have HY:=Lib.hid h3
   clear h3
   obtain ⟨d9,htr9⟩:=HP8.out.trees (fun k hk=>(HP8.out.own k hk).1) (by show 1≤maxLen;decide)
   have TL:Hid (∀ a1:Act,a1={ tmps:=#[rdP rb,(fun i=>a1.tmps.getD i undef) 1,.pointer (some ⟨w.heap.size,0,none⟩),.bool false,(fun i=>a1.tmps.getD i undef) 4,.bool cl,.pointer (some ⟨w3.heap.size,0,none⟩),(fun i=>a1.tmps.getD i undef) 7,(fun i=>a1.tmps.getD i undef) 8,(fun i=>a1.tmps.getD i undef) 9,(fun i=>a1.tmps.getD i undef) 10,(fun i=>a1.tmps.getD i undef) 11,(fun i=>a1.tmps.getD i undef) 12,(fun i=>a1.tmps.getD i undef) 13,(fun i=>a1.tmps.getD i undef) 14,(fun i=>a1.tmps.getD i undef) 15,(fun i=>a1.tmps.getD i undef) 16,(fun i=>a1.tmps.getD i undef) 17,(fun i=>a1.tmps.getD i undef) 18,(fun i=>a1.tmps.getD i undef) 19,(fun i=>a1.tmps.getD i undef) 20,(fun i=>a1.tmps.getD i undef) 21,(fun i=>a1.tmps.getD i undef) 22,(fun i=>a1.tmps.getD i undef) 23,(fun i=>a1.tmps.getD i undef) 24,(fun i=>a1.tmps.getD i undef) 25,(fun i=>a1.tmps.getD i undef) 26,(fun i=>a1.tmps.getD i undef) 27,(fun i=>a1.tmps.getD i undef) 28,(fun i=>a1.tmps.getD i undef) 29,(fun i=>a1.tmps.getD i undef) 30,(fun i=>a1.tmps.getD i undef) 31,(fun i=>a1.tmps.getD i undef) 32,(fun i=>a1.tmps.getD i undef) 33,(fun i=>a1.tmps.getD i undef) 34,(fun i=>a1.tmps.getD i undef) 35,(fun i=>a1.tmps.getD i undef) 36,(fun i=>a1.tmps.getD i undef) 37,(fun i=>a1.tmps.getD i undef) 38,(fun i=>a1.tmps.getD i undef) 39,(fun i=>a1.tmps.getD i undef) 40,(fun i=>a1.tmps.getD i undef) 41,(fun i=>a1.tmps.getD i undef) 42,(fun i=>a1.tmps.getD i undef) 43,(fun i=>a1.tmps.getD i undef) 44,(fun i=>a1.tmps.getD i undef) 45,(fun i=>a1.tmps.getD i undef) 46,(fun i=>a1.tmps.getD i undef) 47,(fun i=>a1.tmps.getD i undef) 48,(fun i=>a1.tmps.getD i undef) 49,(fun i=>a1.tmps.getD i undef) 50,(fun i=>a1.tmps.getD i undef) 51,(fun i=>a1.tmps.getD i undef) 52,(fun i=>a1.tmps.getD i undef) 53,(fun i=>a1.tmps.getD i undef) 54,(fun i=>a1.tmps.getD i undef) 55,(fun i=>a1.tmps.getD i undef) 56,(fun i=>a1.tmps.getD i undef) 57,(fun i=>a1.tmps.getD i undef) 58,(fun i=>a1.tmps.getD i undef) 59,(fun i=>a1.tmps.getD i undef) 60,(fun i=>a1.tmps.getD i undef) 61,(fun i=>a1.tmps.getD i undef) 62,(fun i=>a1.tmps.getD i undef) 63,(fun i=>a1.tmps.getD i undef) 64,(fun i=>a1.tmps.getD i undef) 65,(fun i=>a1.tmps.getD i undef) 66,(fun i=>a1.tmps.getD i undef) 67,(fun i=>a1.tmps.getD i undef) 68,(fun i=>a1.tmps.getD i undef) 69,(fun i=>a1.tmps.getD i undef) 70,(fun i=>a1.tmps.getD i undef) 71,(fun i=>a1.tmps.getD i undef) 72,(fun i=>a1.tmps.getD i undef) 73,(fun i=>a1.tmps.getD i undef) 74,(fun i=>a1.tmps.getD i undef) 75,(fun i=>a1.tmps.getD i undef) 76],defers:=[] }→K1 a1 w8):=Lib.hid fun a1 ha1=>hK1 _ _ (chain_tail (A:=some ⟨w6.heap.size,0,none⟩) (cx:=1) (dx:=d9) R hlt hz3 cl (nd 16 [] [u] (hereF last l).line) (nd_ok (by decide) (by decide)) htr9 HS8.out HT8.out HX8.out HK8.out HY.out a1 ha1)
   clear hK1 htr9
   go_wp2
   exact TL.out _ (by kernel_rfl)
  | true =>
   rw [hb,if_pos rfl] at h3
   go_wp2_with fail
   have HH:=HH.out
   clear a0 a1 a2 a3 a4 g0 g1 g2 g3 g4
   unfold sets5 at HH
   generalize (((((w6.setCell ⟨w3.heap.size,0,none⟩ (.int .i64 16)).setCell ⟨w3.heap.size,1,none⟩ (.string ⟨#[]⟩)).setCell ⟨w3.heap.size,2,none⟩ (.int .i64 0)).setCell ⟨w3.heap.size,3,none⟩ (.slice (some ⟨w6.heap.size,0,none⟩) 1 1)).setCell ⟨w3.heap.size,4,none⟩ (.int .i64 (hereF last l).line)).alloc (.cells #[.int .i64 u.op,.string u.s,.int .i64 u.n,.slice Au u.l.length cu,.int .i64 u.line] 29)=w7 at HH ⊢
   obtain ⟨hs7,ht7,hx7,hk7,hp7,hz7⟩:=HH
   refine (takes1 hs7 ⟨#[40]⟩ _ ?hx11 _ hb).mono ?_
   case hx11=>rw [hz7]
   rintro e w8 ⟨rfl,hs,ht⟩
   replace hs:St w8 rb last r2.tail:=by simpa using hs
   have HS8:=Lib.hid hs
   have HT8:=Lib.hid (TurnR.trans ht7 ht)
   have HX8:=Lib.hid (hx7.tr ht (by omega))
   have HK8:=Lib.hid (hk7.tr ht (by omega))
   have HP8:=Lib.hid (hp7.tr ht (by omega) (by omega))
   have hz8:w3.heap.size<w8.heap.size:=HX8.out.lt
   have he8:=(HP8.out.own _ rfl).2
   clear hs ht hs7 ht7 hx7 hk7 hp7
   rename_i K1 hK1 K2 hK2 K3 hK3
   have hxd:=HX8.out.dr
   obtain ⟨⟨p0,p1,p2,p3,p4⟩,q0,q1,q2,q3,q4⟩:=hxd.five
   have HSD:=Lib.hid HS8.out.dr
   have HTD:=Lib.hid (TurnR.dr HT8.out)
   have HXD:=Lib.hid hxd
   have HKD:=Lib.hid HK8.out.dr
   have HPD:=Lib.hid HP8.out.dr
   have he6:=HE6.out
   clear hxd HX8 HK8 HP8 HS8 HT8
   rcases bind_some h3 with ⟨⟨c,ln⟩,h1,rfl⟩ | ⟨ys,r3,h1,h4⟩
   ·have HM:=Lib.hid h1
    clear h1 h3
    go_wp2_with fail
    go_region_with (first
     | (go_at_call 172;refine (HA _ _ _ HSD.out HM.out).mono ?_;rintro e w7 ⟨rfl,ht7⟩;refine goneAny w7 ⟨rfl,PostS.err rfl (TurnR.trans HTD.out ht7)⟩ ?_))
    all_goals trivial
   have HM:=Lib.hid h1
   have HY:=Lib.hid h4
   clear h1 h3 h4
   go_wp2_with fail
   refine wp_midN (fun f=>{ tmps:=#[rdP rb,f 1,.pointer (some ⟨w.heap.size,0,none⟩),.bool false,f 4,.bool cl,.pointer (some ⟨w3.heap.size,0,none⟩),f 7,f 8,f 9,f 10,f 11,f 12,f 13,f 14,f 15,f 16,f 17,f 18,f 19,f 20,f 21,f 22,f 23,f 24,f 25,f 26,f 27,f 28,f 29,f 30,f 31,f 32,f 33,f 34,f 35,f 36,f 37,f 38,f 39,f 40,f 41,f 42,f 43,f 44,f 45,f 46,f 47,f 48,f 49,f 50,f 51,f 52,f 53,f 54,f 55,f 56,f 57,f 58,f 59,f 60,f 61,f 62,f 63,f 64,f 65,f 66,f 67,f 68,f 69,f 70,f 71,f 72,f 73,f 74,f 75,f 76],defers:=[] }) (fun f w9 => ∃ g cap d,TrU (w3.heap.size+1) w9 d (u::ys) (.slice (some ⟨g,0,none⟩) (ys.length+1) cap)∧St w9 rb last r3∧TurnR rb w w9∧Blk w9 w3.heap.size 29 #[.int .i64 16,.string ⟨#[]⟩,.int .i64 0,.slice (some ⟨g,0,none⟩) (ys.length+1) cap,.int .i64 (hereF last l).line]∧Blk w9 w.heap.size 29 zeroN) ?h9 ?q9
   case q9 =>
    rintro f9 w9 ⟨g9,cap9,d9,htr9,hs9,ht9,hx9,hk9⟩
    have TL:Hid (∀ a1:Act,a1={ tmps:=#[rdP rb,(fun i=>a1.tmps.getD i undef) 1,.pointer (some ⟨w.heap.size,0,none⟩),.bool false,(fun i=>a1.tmps.getD i undef) 4,.bool cl,.pointer (some ⟨w3.heap.size,0,none⟩),(fun i=>a1.tmps.getD i undef) 7,(fun i=>a1.tmps.getD i undef) 8,(fun i=>a1.tmps.getD i undef) 9,(fun i=>a1.tmps.getD i undef) 10,(fun i=>a1.tmps.getD i undef) 11,(fun i=>a1.tmps.getD i undef) 12,(fun i=>a1.tmps.getD i undef) 13,(fun i=>a1.tmps.getD i undef) 14,(fun i=>a1.tmps.getD i undef) 15,(fun i=>a1.tmps.getD i undef) 16,(fun i=>a1.tmps.getD i undef) 17,(fun i=>a1.tmps.getD i undef) 18,(fun i=>a1.tmps.getD i undef) 19,(fun i=>a1.tmps.getD i undef) 20,(fun i=>a1.tmps.getD i undef) 21,(fun i=>a1.tmps.getD i undef) 22,(fun i=>a1.tmps.getD i undef) 23,(fun i=>a1.tmps.getD i undef) 24,(fun i=>a1.tmps.getD i undef) 25,(fun i=>a1.tmps.getD i undef) 26,(fun i=>a1.tmps.getD i undef) 27,(fun i=>a1.tmps.getD i undef) 28,(fun i=>a1.tmps.getD i undef) 29,(fun i=>a1.tmps.getD i undef) 30,(fun i=>a1.tmps.getD i undef) 31,(fun i=>a1.tmps.getD i undef) 32,(fun i=>a1.tmps.getD i undef) 33,(fun i=>a1.tmps.getD i undef) 34,(fun i=>a1.tmps.getD i undef) 35,(fun i=>a1.tmps.getD i undef) 36,(fun i=>a1.tmps.getD i undef) 37,(fun i=>a1.tmps.getD i undef) 38,(fun i=>a1.tmps.getD i undef) 39,(fun i=>a1.tmps.getD i undef) 40,(fun i=>a1.tmps.getD i undef) 41,(fun i=>a1.tmps.getD i undef) 42,(fun i=>a1.tmps.getD i undef) 43,(fun i=>a1.tmps.getD i undef) 44,(fun i=>a1.tmps.getD i undef) 45,(fun i=>a1.tmps.getD i undef) 46,(fun i=>a1.tmps.getD i undef) 47,(fun i=>a1.tmps.getD i undef) 48,(fun i=>a1.tmps.getD i undef) 49,(fun i=>a1.tmps.getD i undef) 50,(fun i=>a1.tmps.getD i undef) 51,(fun i=>a1.tmps.getD i undef) 52,(fun i=>a1.tmps.getD i undef) 53,(fun i=>a1.tmps.getD i undef) 54,(fun i=>a1.tmps.getD i undef) 55,(fun i=>a1.tmps.getD i undef) 56,(fun i=>a1.tmps.getD i undef) 57,(fun i=>a1.tmps.getD i undef) 58,(fun i=>a1.tmps.getD i undef) 59,(fun i=>a1.tmps.getD i undef) 60,(fun i=>a1.tmps.getD i undef) 61,(fun i=>a1.tmps.getD i undef) 62,(fun i=>a1.tmps.getD i undef) 63,(fun i=>a1.tmps.getD i undef) 64,(fun i=>a1.tmps.getD i undef) 65,(fun i=>a1.tmps.getD i undef) 66,(fun i=>a1.tmps.getD i undef) 67,(fun i=>a1.tmps.getD i undef) 68,(fun i=>a1.tmps.getD i undef) 69,(fun i=>a1.tmps.getD i undef) 70,(fun i=>a1.tmps.getD i undef) 71,(fun i=>a1.tmps.getD i undef) 72,(fun i=>a1.tmps.getD i undef) 73,(fun i=>a1.tmps.getD i undef) 74,(fun i=>a1.tmps.getD i undef) 75,(fun i=>a1.tmps.getD i undef) 76],defers:=[] }→K1 a1 w9):=Lib.hid fun a1 ha1=>hK1 _ _ (chain_tail (A:=some ⟨g9,0,none⟩) (cx:=cap9) (dx:=d9) R hlt hz3 cl (nd 16 [] (u::ys) (hereF last l).line) (nd_ok (by decide) (by decide)) htr9 hs9 ht9 hx9 hk9 HY.out a1 ha1)
    clear hK1 htr9 hs9 ht9 hx9 hk9
    go_wp2
    exact TL.out _ (by kernel_rfl)
   case h9 =>
    clear hK1
    cases ys with
    | nil =>
     go_region_law (first
      | (refine step_append_none (by rfl) _ _ (by rfl) w6.heap.size 1 1 (by rfl) (by decide) (by rfl) ?_)
      | (go_simp;go_at_call 172;refine (HA _ _ _ HSD.out HM.out).mono ?_;rintro e w7 ⟨⟨v7,rfl,hrow7,hlen7,hnil7⟩,hs7,ht7⟩;have HS7:=Lib.hid hs7;have HP7:=Lib.hid (HPD.out.tr ht7 (by omega) (by omega));have hx7:=HXD.out.tr ht7 (by omega);have hk7:=HKD.out.tr ht7 (by omega);obtain ⟨⟨t0,t1,t2,t3,t4⟩,u0,u1,u2,u3,u4⟩:=hx7.five;have hz7:=hx7.lt;have hz6':w8.heap.size≤w7.heap.size:=ht7.size;obtain rfl:=hnil7 rfl))
     all_goals
      have hs9:=((HS7.out).set' (g:=w3.heap.size) (j:=3) (by omega) (.slice (some ⟨w6.heap.size,0,none⟩) 1 1))
      have ht9:=TurnR.set (p:=⟨w3.heap.size,3,none⟩) (TurnR.trans HTD.out ht7) (by show w.heap.size≤w3.heap.size;omega) (.slice (some ⟨w6.heap.size,0,none⟩) 1 1)
      have hk9:=(hk7).far (p:=⟨w3.heap.size,3,none⟩) (by show w.heap.size≠w3.heap.size;omega) (.slice (some ⟨w6.heap.size,0,none⟩) 1 1)
      have hx9:Blk (w7.setCell ⟨w3.heap.size,3,none⟩ (.slice (some ⟨w6.heap.size,0,none⟩) 1 1)) w3.heap.size 29 #[.int .i64 16,.string ⟨#[]⟩,.int .i64 0,.slice (some ⟨w6.heap.size,0,none⟩) 1 1,.int .i64 (hereF last l).line]:=by simpa using (hx7).set_ 3 (.slice (some ⟨w6.heap.size,0,none⟩) 1 1)
      have hp9:=HP7.out.far (p:=⟨w3.heap.size,3,none⟩) (by show ¬ (w3.heap.size+1≤w3.heap.size);omega) (by simp [Value.ownBlock];omega) (.slice (some ⟨w6.heap.size,0,none⟩) 1 1)
      obtain ⟨d9,htr9⟩:=hp9.trees (fun k hk=>(hp9.own k hk).1) (by show 1≤maxLen;decide)
      exact midN_normal (by kernel_rfl) ⟨w6.heap.size,1,d9,htr9,hs9,ht9,hx9,hk9⟩
    | cons y1 ys =>
     have HNE:Hid (y1::ys≠[]):=Lib.hid (by simp)
     obtain ⟨zs,hzs⟩ : ∃ zs,zs=y1::ys:=⟨_,rfl⟩
     rw [← hzs] at HM HNE HY ⊢
     clear hzs y1 ys
     go_region_law (first
      | (refine step_append_rowP (Bk:=fun k=>w3.heap.size+1≤k) (B:=w3.heap.size+1) (v := .slice (some ⟨w6.heap.size,0,none⟩) 1 1) (acc:=[u]) (by rfl) _ _ (by rfl) (by rfl) HP7.out l27 ⟨g27,0,none⟩ zs.length c27 (by rfl) HLZ7.out hnews7 (fun p hp=>⟨(hpl7 p hp).1,(hpl7 p hp).2.imp fun _ ht=>TrP.weaken (fun k _ (hk:w8.heap.size≤k)=>⟨by omega,by simp [Value.ownBlock];omega⟩) ht⟩) (by have:=HLZ7.out;omega) (by have:=HLZ7.out;simp;omega) (by omega) ?_;intro g cap w10 hrow8 hgrow8 hat8 hlt8;have hx8:=hx7.grown hgrow8 (by simp [Value.ownBlock];omega);obtain ⟨⟨s0,s1,s2,s3,s4⟩,r0,r1,r2,r3,r4⟩:=hx8.five;have hz10:=hx8.lt)
      | (go_simp;go_at_call 172;refine (HA _ _ _ HSD.out HM.out).mono ?_;rintro e w7 ⟨⟨v7,rfl,hrow7,hlen7,hnil7⟩,hs7,ht7⟩;have HS7:=Lib.hid hs7;have HP7:=Lib.hid (HPD.out.tr ht7 (by omega) (by omega));have hx7:=HXD.out.tr ht7 (by omega);have hk7:=HKD.out.tr ht7 (by omega);obtain ⟨⟨t0,t1,t2,t3,t4⟩,u0,u1,u2,u3,u4⟩:=hx7.five;have hz7:=hx7.lt;have hz6':w8.heap.size≤w7.heap.size:=ht7.size;obtain ⟨l27,g27,c27,hzs7,hlz7,rfl,hnews7,hpl7⟩:=hrow7.news HNE.out;have HLZ7:=Lib.hid hlz7;have HZS7:=Lib.hid hzs7;clear hlz7 hzs7;have hpos7:0<zs.length:=List.length_pos_iff.2 HNE.out))
     all_goals
      replace hrow8:RowP (fun k=>w3.heap.size+1≤k) (w3.heap.size+1) w10 (u::zs) (.slice (some ⟨g,0,none⟩) (1+zs.length) cap):=by have h:=hrow8;rw [HZS7.out] at h;exact h
      have hgo:w3.heap.size+1≤g:=(hrow8.own g rfl).1
      have hs10:=HS7.out.grown hgrow8 (by simp [Value.ownBlock];omega)
      have ht10:=TurnR.grown (TurnR.trans HTD.out ht7) hgrow8 (by simp [Value.ownBlock];omega)
      have hk10:=hk7.grown hgrow8 (by simp [Value.ownBlock];omega)
      have hs9:=((hs10).set' (g:=w3.heap.size) (j:=3) (by omega) (.slice (some ⟨g,0,none⟩) (1+zs.length) cap))
      have ht9:=TurnR.set (p:=⟨w3.heap.size,3,none⟩) (ht10) (by show w.heap.size≤w3.heap.size;omega) (.slice (some ⟨g,0,none⟩) (1+zs.length) cap)
      have hk9:=(hk10).far (p:=⟨w3.heap.size,3,none⟩) (by show w.heap.size≠w3.heap.size;omega) (.slice (some ⟨g,0,none⟩) (1+zs.length) cap)
      have hx9:Blk (w10.setCell ⟨w3.heap.size,3,none⟩ (.slice (some ⟨g,0,none⟩) (1+zs.length) cap)) w3.heap.size 29 #[.int .i64 16,.string ⟨#[]⟩,.int .i64 0,.slice (some ⟨g,0,none⟩) (1+zs.length) cap,.int .i64 (hereF last l).line]:=by simpa using (hx8).set_ 3 (.slice (some ⟨g,0,none⟩) (1+zs.length) cap)
      have hp9:=hrow8.far (p:=⟨w3.heap.size,3,none⟩) (by show ¬ (w3.heap.size+1≤w3.heap.size);omega) (by simp [Value.ownBlock];omega) (.slice (some ⟨g,0,none⟩) (1+zs.length) cap)
      obtain ⟨d9,htr9⟩:=hp9.trees (fun k hk=>(hp9.own k hk).1) (by simp only [List.length_cons,maxLen];omega)
      refine midN_normal (by kernel_rfl) ⟨g,cap,d9,?_,hs9,ht9,?_,hk9⟩
      ·rw [Nat.add_comm zs.length 1];exact htr9
      ·rw [Nat.add_comm zs.length 1];exact hx9
end
section
open Go.RowKit Go.Sort
theorem ba_list (s:List UInt8):(⟨s.toArray⟩:ByteArray).toList=s:=by rw [ByteArray.toList_eq]
theorem forb_calls (w:World) (s:List UInt8):Calls Tryz.prog 107 #[.string ⟨s.toArray⟩] w fun e w'=>e = .returned (.bool (forbF s))∧w=w':=by
 have hb:=ba_list s
 cases h1:(s==[101,118,97,108]) with
 | true =>
  have h1':((⟨s.toArray⟩:ByteArray).toList==[101,118,97,108])=true:=by rw [hb];exact h1
  go_enter Tryz.func107,Tryz.ntmps107
  go_wp2
  go_ret
  exact ⟨by simp [forbF,h1],rfl⟩
 | false =>
  have h1':((⟨s.toArray⟩:ByteArray).toList==[101,118,97,108])=false:=by rw [hb];exact h1
  have h2':((⟨s.toArray⟩:ByteArray).toList==[97,114,103,117,109,101,110,116,115])=(s==[97,114,103,117,109,101,110,116,115]):=by rw [hb]
  go_enter Tryz.func107,Tryz.ntmps107
  go_wp2
  go_ret
  exact ⟨by simp [forbF,h1],rfl⟩
def plainL:List (List UInt8):=[[116,114,117,101],[102,97,108,115,101],[110,117,108,108],[117,110,100,101,102,105,110,101,100],[116,104,105,115],[105,110,112,117,116]]
def plainT:ByteArray := "true false null undefined this input".toUTF8
def plainX:List ByteArray:=plainL.map fun l=>⟨l.toArray⟩
theorem plain_fields:Lib.fields plainT.data.toList=plainL:=by decide +kernel
theorem plain_ascii : ∀ (j:Nat) b,plainT.data.toList[j]? = some b→b.toNat<128:=by
 intro j b h
 have hm:=List.mem_of_getElem? h
 have : ∀ x ∈ plainT.data.toList,x.toNat<128:=by decide +kernel
 exact this b hm
theorem plainX_fields (w:World) (hl:Laid w):Calls Tryz.prog 73 #[.string plainT] w fun e w'=>e = .returned (.slice (some ⟨w.heap.size,0,none⟩) 6 6)∧Below w.heap.size w w'∧Txs w' w.heap.size plainX:=by
 have h:=Tryz.strings_Fields plainT w (by decide +kernel) plain_ascii hl.sp
 rw [plain_fields] at h
 refine h.mono ?_
 rintro e w' ⟨rfl,rfl⟩
 refine ⟨rfl,(Below.refl _ _).alloc (Nat.le_refl _) _,?_⟩
 have:=Txs.new w plainX 9 (by decide)
 have e2:(plainX.map Value.string).toArray=(plainL.map fun l=>Value.string ⟨l.toArray⟩).toArray:=by unfold plainX;rw [List.map_map];rfl
 rw [e2] at this
 exact this
theorem ba_eq {s t:List UInt8}:((⟨s.toArray⟩:ByteArray)=⟨t.toArray⟩) ↔ s=t:=by
 constructor
 ·intro h
  have:=congrArg (fun b:ByteArray=>b.data.toList) h
  simpa using this
 ·rintro rfl;rfl
theorem plain_idx (s:List UInt8):plainF s=(if Lib.idxOfS plainX ⟨s.toArray⟩<0 then 0 else 4+Lib.idxOfS plainX ⟨s.toArray⟩):=by
 unfold plainF plainX plainL Lib.idxOfS
 simp only [List.map_cons,List.map_nil,Lib.idxFromS,ba_eq]
 by_cases h1:s=[116,114,117,101]
 ·subst h1;decide
 have g1:¬ [116,114,117,101]=s:=fun e=>h1 e.symm
 by_cases h2:s=[102,97,108,115,101]
 ·subst h2;decide
 have g2:¬ [102,97,108,115,101]=s:=fun e=>h2 e.symm
 by_cases h3:s=[110,117,108,108]
 ·subst h3;decide
 have g3:¬ [110,117,108,108]=s:=fun e=>h3 e.symm
 by_cases h4:s=[117,110,100,101,102,105,110,101,100]
 ·subst h4;decide
 have g4:¬ [117,110,100,101,102,105,110,101,100]=s:=fun e=>h4 e.symm
 by_cases h5:s=[116,104,105,115]
 ·subst h5;decide
 have g5:¬ [116,104,105,115]=s:=fun e=>h5 e.symm
 by_cases h6:s=[105,110,112,117,116]
 ·subst h6;decide
 have g6:¬ [105,110,112,117,116]=s:=fun e=>h6 e.symm
 simp only [if_neg h1,if_neg g1,if_neg h2,if_neg g2,if_neg h3,if_neg g3,if_neg h4,if_neg g4,if_neg h5,if_neg g5,if_neg h6,if_neg g6]
 decide
theorem plain_calls (w:World) (hl:Laid w) (s:List UInt8):Calls Tryz.prog 192 #[.string ⟨s.toArray⟩] w fun e w'=>e = .returned (.int .i64 (plainF s))∧Below w.heap.size w w':=by
 have HP:=Lib.hid (plain_idx s)
 have hr : -1≤Lib.idxOfS plainX ⟨s.toArray⟩∧Lib.idxOfS plainX ⟨s.toArray⟩≤1000:=by
  unfold plainX plainL Lib.idxOfS
  simp only [List.map_cons,List.map_nil,Lib.idxFromS]
  repeat' split
  all_goals decide
 have HL:=Lib.hid hl
 clear hl
 go_enter Tryz.func192,Tryz.ntmps192
 go_wp2_with fail
 refine calls_argF (b := .string plainT) (by kernel_rfl) ?_
 refine (plainX_fields _ HL.out).mono ?_
 rintro e w2 ⟨rfl,hb2,hx2⟩
 have HC:=Lib.hid (Tryz.slices_Index_string w.heap.size 0 6 6 plainX ⟨s.toArray⟩ w2 (by decide) (by decide) (fun j hj=>by
  rw [Nat.zero_add]
  have h1:plainX[j]? = some plainX[j]:=List.getElem?_eq_getElem hj
  rw [hx2.cell j _ h1]
  simp [List.getD,hj]))
 rw [show plainX.take 6=plainX from rfl] at HC
 have HB:=Lib.hid hb2
 clear hb2 hx2
 generalize Lib.idxOfS plainX ⟨s.toArray⟩=i at *
 go_wp2_with fail
 refine HC.out.mono ?_
 rintro e w3 ⟨rfl,rfl⟩
 clear HC
 by_cases hi:i<0
 ·have hd:decide (i<0)=true:=by simpa using hi
  go_wp2
  go_ret
  exact ⟨by rw [HP.out,if_pos hi];rfl,HB.out⟩
 ·have hd:decide (i<0)=false:=by simpa using hi
  go_wp2
  go_ret
  exact ⟨by rw [HP.out,if_neg (by omega)];rfl,HB.out⟩
theorem key_calls (w:World) (t:Tl):Calls Tryz.prog 203 #[tokV t] w fun e w'=>e = .returned (.bool (keyB t))∧Below w.heap.size w w':=by
 obtain ⟨kk,hkk⟩ : ∃ k,k=t.t.kind:=⟨_,rfl⟩
 have hK:keyB t=(decide (1≤kk)&&decide (kk≤4)):=by unfold keyB;rw [hkk]
 have HK:=Lib.hid hK
 unfold tokV
 rw [← hkk]
 clear hK hkk
 cases h1:decide (1≤kk) with
 | true =>
  go_enter Tryz.func203,Tryz.ntmps203
  go_wp2
  go_ret
  exact ⟨by rw [HK.out,h1];rfl,(Below.refl _ _).alloc (Nat.le_refl _) _⟩
 | false =>
  go_enter Tryz.func203,Tryz.ntmps203
  go_wp2
  go_ret
  exact ⟨by rw [HK.out,h1];rfl,(Below.refl _ _).alloc (Nat.le_refl _) _⟩
end
end Go.Proofs.YtjjdmiaonkailaaGreatDoor
