/- Walks and plain laws, packed: RdY. -/
import Derived.Test.YtjjdmiaonkailaaGreatDoorK34
import Derived.Test.YtjjdmiaonkailaaGreatDoorK25
import Derived.Test.YtjjdmiaonkailaaGreatDoorK23
import Derived.Deep.RegionHeld3
import Derived.Deep.RegionWith
import Derived.Deep.AppendLies
import Derived.Deep.LoopGhost
import Derived.Deep.CutRange
import Derived.WalkMore
import Derived.Deep.RegionLaw
import Derived.Lib.ItoaLen
namespace Go.Proofs.YtjjdmiaonkailaaGreatDoor
section
open Go.RowKit Go.Sort
theorem RowP.nil0 {Bk:Nat→Prop} {B:Nat} {W:World}:RowP Bk B W [] (.slice none 0 0):=by
 obtain ⟨l,h1,h2,h3⟩:=(RowT.nil:RowT B W [] (.slice none 0 0))
 refine ⟨l,h1,h2,fun p hp => ?_⟩
 have:l=[]:=List.map_eq_nil_iff.1 h1
 subst this
 cases hp
set_option maxRecDepth 100000 in
set_option maxHeartbeats 8000000 in
theorem obj_step {rb last f:Nat} (R:AllR rb last f):ObjC rb last f:=by
 intro w l y h hy
 have f3:=field_tok3
 have hlt:=h.lt
 have HS0:=Lib.hid (h.alloc (.cells zeroN 29))
 have hk0:=Blk.new w 29 zeroN
 have HT0:=Lib.hid (alloc_turn w rb (.cells zeroN 29))
 have hz0:w.heap.size+1≤(w.alloc (.cells zeroN 29)).heap.size:=by simp
 unfold objectS at hy
 clear h
 go_enter Tryz.func191,Tryz.ntmps191
 go_wp2_with fail
 refine (here_calls _ rb last _ HS0.out).mono ?_
 rintro e w2 ⟨rfl,hb⟩
 unfold tokV
 have ht:=turn_below (rb:=rb) hb
 have hs:=HS0.out.below hb
 clear hb
 have HS1:=Lib.hid hs
 have HT1:=Lib.hid (TurnR.trans HT0.out ht)
 have hk1:=hk0.tr ht (by omega)
 have hlhk1:=hk1.lt
 clear ht hs hk0
 have HS2:=Lib.hid (HS1.out.alloc (.cells #[.int .i64 11,.string ⟨#[]⟩,.int .i64 0,.slice none 0 0,.int .i64 (hereF last l).line] 29))
 have HT2:=Lib.hid (TurnR.al HT1.out (.cells #[.int .i64 11,.string ⟨#[]⟩,.int .i64 0,.slice none 0 0,.int .i64 (hereF last l).line] 29))
 have hk2:=hk1.alloc (.cells #[.int .i64 11,.string ⟨#[]⟩,.int .i64 0,.slice none 0 0,.int .i64 (hereF last l).line] 29)
 have hn2:=Blk.new w2 29 #[.int .i64 11,.string ⟨#[]⟩,.int .i64 0,.slice none 0 0,.int .i64 (hereF last l).line]
 clear hk1
 have hlhn2:=hn2.lt
 rcases bind_some hy with ⟨⟨c,ln⟩,h1,rfl⟩ | ⟨_,r,h1,h2⟩
 ·have HM:=Lib.hid h1
  clear h1 hy
  go_wp2_with fail
  refine (must1 HS2.out ⟨#[123]⟩ _ ?hx1 _ HM.out).mono ?_
  case hx1=>simp
  rintro e w3 ⟨rfl,ht⟩
  exact ⟨rfl,PostS.err rfl (TurnR.trans HT2.out ht)⟩
 have HM:=Lib.hid h1
 clear h1 hy
 go_wp2_with fail
 refine (must1 HS2.out ⟨#[123]⟩ _ ?hx2 _ HM.out).mono ?_
 case hx2=>simp
 rintro e w3 ⟨⟨v3,rfl,-⟩,hs,ht⟩
 have HS3:=Lib.hid hs
 have HT3:=Lib.hid (TurnR.trans HT2.out ht)
 have hk3:=hk2.tr ht (by omega)
 have hn3:=hn2.tr ht (by omega)
 have hlhk3:=hk3.lt
 have hlhn3:=hn3.lt
 clear ht hs hk2 hn2
 cases hyp:(fns last f).pairs [] r with
 | none=>rw [hyp] at h2;cases h2
 | some yp =>
 rw [hyp] at h2
 have HYE:Hid (∀ c ln,yp = .error (c,ln)→y = .error (c,ln)):=Lib.hid (by
  rintro c ln rfl
  have h3:some (Except.error (c,ln))=some y:=h2
  injection h3 with h3
  exact h3.symm)
 have HYO:Hid (∀ ps q,yp = .ok (ps,q)→y = .ok (nd 11 [] ps (hereF last l).line,q)):=Lib.hid (by
  rintro ps q rfl
  exact some_ok h2)
 clear h2
 have HYP:=Lib.hid hyp
 have hrlen:=HS3.out.len
 have HR0:Hid (RowT (w2.heap.size+1) w3 [] (.slice none 0 0)):=Lib.hid RowT.nil
 have HB0:=Lib.hid (And.intro hk3 hn3)
 clear hyp hk3 hn3
 go_wp2
 go_loopg [] f (fun n wr => ∃ (acc:List Tree) (A:Option Addr) (cA:Nat) (l2:List Tl),n≤f∧RowT (w2.heap.size+1) wr acc (.slice A acc.length cA)∧acc.length+l2.length≤100000∧St wr rb last l2∧TurnR rb w wr∧Blk wr w.heap.size 29 zeroN∧Blk wr w2.heap.size 29 #[.int .i64 11,.string ⟨#[]⟩,.int .i64 0,.slice A acc.length cA,.int .i64 (hereF last l).line]∧(fns last n).pairs acc l2=some yp)
 case atStart=>exact ⟨[],none,0,r,Nat.le_refl _,HR0.out,by simpa using hrlen,HS3.out,HT3.out,HB0.out.1,HB0.out.2,HYP.out⟩
 case round =>
  obtain ⟨acc,A,cA,l2,hn,hrow,hlen,hst,htn,hkb,hnb,hy2⟩:=hrel
  clear HR0 HB0 HYP hrlen
  cases gk with
  | zero=>cases hy2
  | succ n =>
   have hy:pairsS last (fns last n) acc l2=some yp:=hy2
   clear hy2
   unfold pairsS at hy
   have LF:=Lib.hid (leFns_le last (show n≤f by omega))
   have HS1:=Lib.hid hst
   have HT1:=Lib.hid htn
   have HN:=Lib.hid hn
   have HR:=Lib.hid hrow
   have HLEN:=Lib.hid hlen
   have hz1:w2.heap.size<wr.heap.size:=hnb.lt
   have hz0:w.heap.size<wr.heap.size:=hkb.lt
   have HKB:=Lib.hid hkb
   have HNB:=Lib.hid hnb
   clear hst htn hn hrow hlen hkb hnb
   have T1:Hid (TurnR rb wr wr):=Lib.hid (Turn.refl _ _)
   cases ha:atF [[125]] l2 with
   | true =>
    rw [ha,if_pos rfl] at hy
    have hy1:=some_ok hy
    have HYO2:=Lib.hid (HYO.out _ _ hy1)
    clear hy hy1
    go_wp2_with fail
    refine (takes1 HS1.out ⟨#[125]⟩ _ ?hx3 _ ha).mono ?_
    case hx3=>simp
    rintro e w4 ⟨rfl,hs,ht⟩
    replace hs:St w4 rb last l2.tail:=by simpa using hs
    have HS2:=Lib.hid hs
    have HT2:=Lib.hid (TurnR.trans HT1.out ht)
    have HK2:=Lib.hid (HKB.out.tr ht (by omega))
    have hn2:=HNB.out.tr ht (by omega)
    obtain ⟨⟨a0,a1,a2,a3,a4⟩,-⟩:=hn2.five
    obtain ⟨⟨b0,b1,b2,b3,b4⟩,g0,g1,g2,g3,g4⟩:=HK2.out.five
    obtain ⟨d9,htr9⟩:=(HR.out.tr ht (by omega)).treesU (by have:=HLEN.out;omega)
    have HTR9:=Lib.hid (htr9.weaken (B':=w.heap.size+1) (by omega))
    have hz4:=hn2.lt
    clear hs ht hn2 htr9
    go_wp2
    refine ret_node (HK2.out.set5 _ _ _ _ _) rfl rfl rfl ?_
    obtain ⟨q1,q2,q3⟩:=fin_old (x:=nd 11 [] acc (hereF last l).line) hlt HS2.out HT2.out (nd_ok (by decide) (by decide)) HTR9.out
    exact PostS.ok HYO2.out q3 q1 q2
   | false =>
    rw [ha,if_neg (by decide)] at hy
    go_wp2_with fail
    refine (takes1 HS1.out ⟨#[125]⟩ _ ?hx4 _ ha).mono ?_
    case hx4=>simp
    rintro e w4 ⟨rfl,hs,ht⟩
    replace hs:St w4 rb last l2:=by simpa using hs
    have HS2:=Lib.hid hs
    have T2:=Lib.hid (TurnR.trans T1.out ht)
    have hzz2:wr.heap.size≤w4.heap.size:=T2.out.size
    clear hs ht
    go_wp2_with fail
    refine (here_calls _ rb last _ HS2.out).mono ?_
    rintro e w5 ⟨rfl,hb⟩
    unfold tokV
    have ht:=turn_below (rb:=rb) hb
    have hs:=HS2.out.below hb
    clear hb
    have HS3:=Lib.hid hs
    have T3:=Lib.hid (TurnR.trans T2.out ht)
    have hzz3:wr.heap.size≤w5.heap.size:=T3.out.size
    clear hs ht
    have HB4:=Lib.hid (Blk.new w5 37 #[.int .i64 (hereF last l2).t.kind,.string ⟨(hereF last l2).t.s.toArray⟩,.int .i64 (hereF last l2).t.n,.int .i64 (hereF last l2).line,.bool (hereF last l2).nl])
    have HS4:=Lib.hid (HS3.out.alloc (.cells #[.int .i64 (hereF last l2).t.kind,.string ⟨(hereF last l2).t.s.toArray⟩,.int .i64 (hereF last l2).t.n,.int .i64 (hereF last l2).line,.bool (hereF last l2).nl] 37))
    have T4:=Lib.hid (TurnR.al T3.out (.cells #[.int .i64 (hereF last l2).t.kind,.string ⟨(hereF last l2).t.s.toArray⟩,.int .i64 (hereF last l2).t.n,.int .i64 (hereF last l2).line,.bool (hereF last l2).nl] 37))
    obtain ⟨kb,hkb⟩ : ∃ b,keyB (hereF last l2)=b:=⟨_,rfl⟩
    go_wp2_with fail
    refine (key_calls _ (hereF last l2)).mono ?_
    rintro e w6 ⟨rfl,hb⟩
    have hs:=HS4.out.below hb
    have ht:=turn_below (rb:=rb) hb
    clear hb
    have HB:=HB4
    have HS5:=Lib.hid hs
    have T5:=Lib.hid (TurnR.trans T4.out ht)
    have HB5:=Lib.hid (HB4.out.tr ht (by omega))
    have hzz5:wr.heap.size≤w6.heap.size:=T5.out.size
    clear hs ht
    have hz5:w5.heap.size<w6.heap.size:=HB5.out.lt
    clear HB HB4
    rw [hkb] at hy ⊢
    cases kb with
    | false =>
     rw [if_pos rfl] at hy
     have HYE2:=Lib.hid (HYE.out _ _ (err_eq hy))
     clear hy
     go_wp2_with fail
     refine (stops_calls _ rb last _ HS5.out false).mono ?_
     rintro e w7 ⟨rfl,hb⟩
     exact ⟨rfl,PostS.err HYE2.out (TurnR.trans HT1.out (TurnR.trans T5.out (turn_below hb)))⟩
    | true =>
     rw [if_neg (by decide)] at hy
     go_wp2_with fail
     refine (skip_calls _ rb last _ HS5.out).mono ?_
     rintro e w7 ⟨rfl,hs,ht⟩
     unfold tokV
     have HS6:=Lib.hid hs
     have T6:=Lib.hid (TurnR.trans T5.out ht)
     have HB6:=Lib.hid (HB5.out.tr ht (by omega))
     have hzz6:wr.heap.size≤w7.heap.size:=T6.out.size
     clear hs ht
     clear HB5
     obtain ⟨⟨a0,a1,a2,a3,a4⟩,-⟩:=HB6.out.five
     obtain ⟨gg,hgg⟩ : ∃ b:Bool,b=(((hereF last l2).t.kind==1)&&((((hereF last l2).t.s==[103,101,116])||((hereF last l2).t.s==[115,101,116]))&&keyB (hereF last l2.tail))):=⟨_,rfl⟩
     have HGG:=Lib.hid hgg
     clear hgg
     go_upto_region 8 with fail
     refine wp_midN (fun f=>{ tmps:=#[rdP rb,undef,.pointer (some ⟨w.heap.size,0,none⟩),.pointer (some ⟨w2.heap.size,0,none⟩),.pointer (some ⟨w5.heap.size,0,none⟩),f 5,rdP rb,.pointer (some ⟨rb,0,none⟩),.pointer (some ⟨rb,0,none⟩),.agg #[.int .i64 (hereF last l).t.kind,.string ⟨(hereF last l).t.s.toArray⟩,.int .i64 (hereF last l).t.n,.int .i64 (hereF last l).line,.bool (hereF last l).nl],.int .i64 (hereF last l).line,.agg #[.int .i64 11,.string ⟨#[]⟩,.int .i64 0,.slice none 0 0,.int .i64 (hereF last l).line],rdP rb,.slice (some ⟨w2.heap.size+1,0,none⟩) 1 1,v3,f 15,f 16,f 17,f 18,f 19,f 20,f 21,f 22,f 23,f 24,f 25,f 26,f 27,f 28,f 29,f 30,f 31,f 32,f 33,f 34,f 35,f 36,f 37,f 38,f 39,f 40,f 41,f 42,f 43,f 44,f 45,f 46,f 47,f 48,f 49,f 50,.bool gg,f 52,f 53,f 54,f 55,f 56,f 57,f 58,f 59,f 60,f 61,f 62,f 63,f 64,f 65,f 66,f 67,f 68,f 69,f 70,f 71,f 72,f 73,f 74,f 75,f 76,f 77,f 78,f 79,f 80,f 81,f 82,f 83,f 84,f 85,f 86,f 87,f 88,f 89,undef],defers:=[] }) (fun _ w9=>St w9 rb last l2.tail∧TurnR rb wr w9∧Blk w9 w5.heap.size 37 #[.int .i64 (hereF last l2).t.kind,.string ⟨(hereF last l2).t.s.toArray⟩,.int .i64 (hereF last l2).t.n,.int .i64 (hereF last l2).line,.bool (hereF last l2).nl]) ?h8 ?q8
     case h8 =>
      cases hk1:((hereF last l2).t.kind==1) with
      | false =>
       have e:gg=false:=by rw [HGG.out,hk1];rfl
       subst e
       go_wp2
       exact midN_normal (by kernel_rfl) ⟨HS6.out,T6.out,HB6.out⟩
      | true =>
       have hk1':(hereF last l2).t.kind=1:=by simpa using hk1
       have hba:=ba_list (hereF last l2).t.s
       cases hg:((hereF last l2).t.s==[103,101,116]) with
       | true =>
        have hgw:((⟨(hereF last l2).t.s.toArray⟩:ByteArray).toList==[103,101,116])=true:=by rw [hba];exact hg
        clear hk1'
        obtain ⟨kc,hkc⟩ : ∃ b,keyB (hereF last l2.tail)=b:=⟨_,rfl⟩
        have e:gg=kc:=by rw [HGG.out,hk1,hg,hkc];simp
        subst e
        go_wp2_with fail
        refine (here_calls _ rb last _ HS6.out).mono ?_
        rintro e w8 ⟨rfl,hb⟩
        unfold tokV
        have ht:=turn_below (rb:=rb) hb
        have hs:=HS6.out.below hb
        clear hb
        go_wp2_with fail
        refine (key_calls _ (hereF last l2.tail)).mono ?_
        rintro e w9 ⟨rfl,hb⟩
        rw [hkc]
        have ht2:=TurnR.trans ht (turn_below (rb:=rb) hb)
        have hs2:=hs.below hb
        go_wp2
        exact midN_normal (by kernel_rfl) ⟨hs2,TurnR.trans T6.out ht2,HB6.out.tr ht2 (by omega)⟩
       | false =>
        have hgw:((⟨(hereF last l2).t.s.toArray⟩:ByteArray).toList==[103,101,116])=false:=by rw [hba];exact hg
        cases hg2:((hereF last l2).t.s==[115,101,116]) with
        | true =>
         have hgw2:((⟨(hereF last l2).t.s.toArray⟩:ByteArray).toList==[115,101,116])=true:=by rw [hba];exact hg2
         clear hk1'
         obtain ⟨kc,hkc⟩ : ∃ b,keyB (hereF last l2.tail)=b:=⟨_,rfl⟩
         have e:gg=kc:=by rw [HGG.out,hk1,hg,hg2,hkc];simp
         subst e
         go_wp2_with fail
         refine (here_calls _ rb last _ HS6.out).mono ?_
         rintro e w8 ⟨rfl,hb⟩
         unfold tokV
         have ht:=turn_below (rb:=rb) hb
         have hs:=HS6.out.below hb
         clear hb
         go_wp2_with fail
         refine (key_calls _ (hereF last l2.tail)).mono ?_
         rintro e w9 ⟨rfl,hb⟩
         rw [hkc]
         have ht2:=TurnR.trans ht (turn_below (rb:=rb) hb)
         have hs2:=hs.below hb
         go_wp2
         exact midN_normal (by kernel_rfl) ⟨hs2,TurnR.trans T6.out ht2,HB6.out.tr ht2 (by omega)⟩
        | false =>
         have hgw2:((⟨(hereF last l2).t.s.toArray⟩:ByteArray).toList==[115,101,116])=false:=by rw [hba];exact hg2
         clear hk1'
         have e:gg=false:=by rw [HGG.out,hk1,hg,hg2];rfl
         subst e
         go_wp2
         exact midN_normal (by kernel_rfl) ⟨HS6.out,T6.out,HB6.out⟩
     case q8 =>
      rintro f8 w8 ⟨hs,ht,hb⟩
      have HS7:=Lib.hid hs
      have T7:=Lib.hid ht
      obtain ⟨⟨a0,a1,a2,a3,a4⟩,-⟩:=hb.five
      have hzb7:=hb.lt
      have hzz7:wr.heap.size≤w8.heap.size:=ht.size
      clear hs ht hb HB6 T6 HS6 T5 HS5 T4 HS4 T3 HS3 T2 HS2
      cases hgg:gg with
      | true =>
       have hcc:(hereF last l2).t.kind=1∧((hereF last l2).t.s=[103,101,116]∨(hereF last l2).t.s=[115,101,116])∧keyB (hereF last l2.tail)=true:=by have h:=HGG.out;rw [hgg] at h;simpa using h.symm
       rw [if_pos hcc] at hy
       have HYE2:=Lib.hid (HYE.out _ _ (err_eq hy))
       clear hy hcc
       go_wp2_with fail
       refine (fails_calls _ rb last _ HS7.out 46).mono ?_
       rintro e w9 ⟨rfl,hb⟩
       exact ⟨rfl,PostS.err HYE2.out (TurnR.trans HT1.out (TurnR.trans T7.out (turn_below hb)))⟩
      | false =>
       have hcc:¬ ((hereF last l2).t.kind=1∧((hereF last l2).t.s=[103,101,116]∨(hereF last l2).t.s=[115,101,116])∧keyB (hereF last l2.tail)=true):=by have h:=HGG.out;rw [hgg] at h;rintro ⟨e1,e2 | e2,e3⟩ <;> simp [e1,e2,e3] at h
       rw [if_neg hcc] at hy
       clear hcc
       go_upto_if 61 with fail
       obtain ⟨ks,hks⟩ : ∃ b,b=(if (hereF last l2).t.kind=3 then Lib.itoa (hereF last l2).t.n else (hereF last l2).t.s):=⟨_,rfl⟩
       rw [← hks] at hy
       have HKS:=Lib.hid hks
       clear hks
       have HSP:=Lib.hid (HS7.out.alloc (.cells #[.int .i64 12,.string ⟨(hereF last l2).t.s.toArray⟩,.int .i64 0,.slice none 0 0,.int .i64 (hereF last l2).line] 29))
       have TP:=Lib.hid (TurnR.al T7.out (.cells #[.int .i64 12,.string ⟨(hereF last l2).t.s.toArray⟩,.int .i64 0,.slice none 0 0,.int .i64 (hereF last l2).line] 29))
       have HBP:=Lib.hid (Blk.new w8 29 #[.int .i64 12,.string ⟨(hereF last l2).t.s.toArray⟩,.int .i64 0,.slice none 0 0,.int .i64 (hereF last l2).line])
       have HKH:=Lib.hid (fun h=>here_ok (last:=last) HS1.out h)
       refine wp_midN (fun f=>{ tmps:=#[rdP rb,undef,.pointer (some ⟨w.heap.size,0,none⟩),.pointer (some ⟨w2.heap.size,0,none⟩),.pointer (some ⟨w5.heap.size,0,none⟩),.pointer (some ⟨w8.heap.size,0,none⟩),rdP rb,.pointer (some ⟨rb,0,none⟩),.pointer (some ⟨rb,0,none⟩),.agg #[.int .i64 (hereF last l).t.kind,.string ⟨(hereF last l).t.s.toArray⟩,.int .i64 (hereF last l).t.n,.int .i64 (hereF last l).line,.bool (hereF last l).nl],.int .i64 (hereF last l).line,.agg #[.int .i64 11,.string ⟨#[]⟩,.int .i64 0,.slice none 0 0,.int .i64 (hereF last l).line],rdP rb,.slice (some ⟨w2.heap.size+1,0,none⟩) 1 1,v3,f 15,f 16,f 17,f 18,f 19,f 20,f 21,f 22,f 23,f 24,f 25,f 26,f 27,f 28,f 29,f 30,f 31,f 32,f 33,f 34,f 35,f 36,f 37,f 38,f 39,f 40,f 41,f 42,f 43,f 44,f 45,f 46,f 47,f 48,f 49,f 50,f 51,f 52,f 53,f 54,f 55,f 56,f 57,f 58,f 59,f 60,f 61,f 62,f 63,f 64,f 65,f 66,f 67,f 68,f 69,f 70,f 71,f 72,f 73,f 74,f 75,f 76,f 77,f 78,f 79,f 80,f 81,f 82,f 83,f 84,f 85,f 86,f 87,f 88,f 89,undef],defers:=[] }) (fun _ w9=>St w9 rb last l2.tail∧TurnR rb wr w9∧Blk w9 w8.heap.size 29 #[.int .i64 12,.string ⟨ks.toArray⟩,.int .i64 0,.slice none 0 0,.int .i64 (hereF last l2).line]) ?h9 ?q9
       case h9 =>
        cases hk3:((hereF last l2).t.kind==3) with
        | false =>
         have e:ks=(hereF last l2).t.s:=by rw [HKS.out,if_neg (by simpa using hk3)]
         subst e
         go_wp2
         exact midN_normal (by kernel_rfl) ⟨HSP.out,TP.out,HBP.out⟩
        | true =>
         have e3:(hereF last l2).t.kind=3:=by simpa using hk3
         have e:ks=Lib.itoa (hereF last l2).t.n:=by rw [HKS.out,if_pos e3]
         subst e
         obtain ⟨q0,q1,q2⟩:=HKH.out (by rw [e3];decide)
         clear e3
         have HFM:=Lib.hid (Tryz.strconv_FormatInt_10 (hereF last l2).t.n (by omega) (by omega) _ HSP.out.laid.pow)
         clear q0 q1 q2
         go_wp2_with fail
         refine HFM.out.mono ?_
         rintro e w9 ⟨rfl,kk,os,rfl⟩
         have hb9:=below_regrown (w8.alloc (.cells #[.int .i64 12,.string ⟨(hereF last l2).t.s.toArray⟩,.int .i64 0,.slice none 0 0,.int .i64 (hereF last l2).line] 29)) ((w8.alloc (.cells #[.int .i64 12,.string ⟨(hereF last l2).t.s.toArray⟩,.int .i64 0,.slice none 0 0,.int .i64 (hereF last l2).line] 29)).drawn+kk) os
         have hb9:Below (w8.alloc (.cells #[.int .i64 12,.string ⟨(hereF last l2).t.s.toArray⟩,.int .i64 0,.slice none 0 0,.int .i64 (hereF last l2).line] 29)).heap.size (w8.alloc (.cells #[.int .i64 12,.string ⟨(hereF last l2).t.s.toArray⟩,.int .i64 0,.slice none 0 0,.int .i64 (hereF last l2).line] 29)) (grow ((w8.alloc (.cells #[.int .i64 12,.string ⟨(hereF last l2).t.s.toArray⟩,.int .i64 0,.slice none 0 0,.int .i64 (hereF last l2).line] 29)).drewN kk) os):=hb9
         have hs9:=HSP.out.below hb9
         have ht9:=TurnR.trans TP.out (turn_below (rb:=rb) hb9)
         have hp9:=HBP.out.tr (turn_below (rb:=rb) hb9) (by omega)
         generalize grow ((w8.alloc (.cells #[.int .i64 12,.string ⟨(hereF last l2).t.s.toArray⟩,.int .i64 0,.slice none 0 0,.int .i64 (hereF last l2).line] 29)).drewN kk) os=w9 at hs9 ht9 hp9 ⊢
         obtain ⟨⟨p0,p1,p2,p3,p4⟩,q0,q1,q2,q3,q4⟩:=hp9.five
         have HH:=Lib.hid (And.intro (hs9.set' (g:=w8.heap.size) (j:=1) (by omega) (.string ⟨(Lib.itoa (hereF last l2).t.n).toArray⟩)) (And.intro (TurnR.set (p:=⟨w8.heap.size,1,none⟩) ht9 (by show wr.heap.size≤w8.heap.size;omega) (.string ⟨(Lib.itoa (hereF last l2).t.n).toArray⟩)) (show Blk (w9.setCell ⟨w8.heap.size,1,none⟩ (.string ⟨(Lib.itoa (hereF last l2).t.n).toArray⟩)) w8.heap.size 29 #[.int .i64 12,.string ⟨(Lib.itoa (hereF last l2).t.n).toArray⟩,.int .i64 0,.slice none 0 0,.int .i64 (hereF last l2).line] from by simpa using hp9.set_ 1 (.string ⟨(Lib.itoa (hereF last l2).t.n).toArray⟩))))
         clear hs9 ht9 hp9 hb9 HFM
         go_wp2
         exact midN_normal (by kernel_rfl) HH.out
       case q9 =>
        rintro f9 w9 ⟨hs,ht,hb⟩
        have HS8:=Lib.hid hs
        have T8:=Lib.hid ht
        have HP8:=Lib.hid hb
        have hzb8:w8.heap.size<w9.heap.size:=hb.lt
        have hzz8:wr.heap.size≤w9.heap.size:=ht.size
        clear hs ht hb HS7 T7 HSP TP HBP a0 a1 a2 a3 a4
        rcases bind_some hy with ⟨⟨c,ln⟩,h1,hyp⟩ | ⟨_,r3,h1,h3⟩
        ·have HM:=Lib.hid h1
         have HYE2:=Lib.hid (HYE.out _ _ hyp)
         clear h1 hy hyp
         go_wp2_with fail
         refine (must1 HS8.out ⟨#[58]⟩ _ ?hx5 _ HM.out).mono ?_
         case hx5=>simp
         rintro e w10 ⟨rfl,ht⟩
         exact ⟨rfl,PostS.err HYE2.out (TurnR.trans HT1.out (TurnR.trans T8.out ht))⟩
        have hl3:r3.length≤l2.tail.length:=by
         have h1:=h1
         unfold mustF at h1
         split at h1
         ·injection h1 with h1;injection h1 with h1;injection h1 with _ h1;subst h1;rw [List.length_tail];omega
         ·exact absurd h1 (by simp [stopF,failF])
        have HM:=Lib.hid h1
        clear h1 hy
        go_wp2_with fail
        refine (must1 HS8.out ⟨#[58]⟩ _ ?hx6 _ HM.out).mono ?_
        case hx6=>simp
        rintro e w10 ⟨⟨v10,rfl,-⟩,hs,ht⟩
        have HS9:=Lib.hid hs
        have T9:=Lib.hid (TurnR.trans T8.out ht)
        have HP9:=Lib.hid (HP8.out.tr ht (by omega))
        have hzb9:w8.heap.size<w10.heap.size:=HP9.out.lt
        have hzz9:wr.heap.size≤w10.heap.size:=T9.out.size
        clear hs ht HS8 T8 HP8
        rcases bind_some h3 with ⟨⟨c,ln⟩,h1,hyp⟩ | ⟨x,r4,h1,h4⟩
        ·have HM:=Lib.hid h1
         have HYE2:=Lib.hid (HYE.out _ _ hyp)
         clear h1 h3 hyp
         go_wp2_with fail
         have hpd:=HP9.out.dr
         obtain ⟨⟨p0,p1,p2,p3,p4⟩,q0,q1,q2,q3,q4⟩:=hpd.five
         have HSD:=Lib.hid HS9.out.dr
         go_region_with (first
          | (go_at_call 27;refine (R.expr _ _ _ HSD.out (LF.out.expr _ _ HM.out)).mono ?_;rintro e w7 ⟨rfl,ht7⟩;refine goneAny w7 ⟨rfl,PostS.err HYE2.out (TurnR.trans HT1.out (TurnR.trans (TurnR.dr T9.out) ht7))⟩ ?_))
         all_goals trivial
        have hl4:r4.length≤r3.length:=by have:=((okFns last n).expr r3).1 _ _ h1;omega
        have HM:=Lib.hid h1
        have HY4:=Lib.hid h4
        clear h1 h3 h4
        go_wp2_with fail
        have hpd:=HP9.out.dr
        obtain ⟨⟨p0,p1,p2,p3,p4⟩,q0,q1,q2,q3,q4⟩:=hpd.five
        have HSD:=Lib.hid HS9.out.dr
        have TD:=Lib.hid (TurnR.dr T9.out)
        have HPD:=Lib.hid hpd
        clear hpd
        refine wp_midN (fun f=>{ tmps:=#[rdP rb,undef,.pointer (some ⟨w.heap.size,0,none⟩),.pointer (some ⟨w2.heap.size,0,none⟩),.pointer (some ⟨w5.heap.size,0,none⟩),.pointer (some ⟨w8.heap.size,0,none⟩),rdP rb,.pointer (some ⟨rb,0,none⟩),.pointer (some ⟨rb,0,none⟩),.agg #[.int .i64 (hereF last l).t.kind,.string ⟨(hereF last l).t.s.toArray⟩,.int .i64 (hereF last l).t.n,.int .i64 (hereF last l).line,.bool (hereF last l).nl],.int .i64 (hereF last l).line,.agg #[.int .i64 11,.string ⟨#[]⟩,.int .i64 0,.slice none 0 0,.int .i64 (hereF last l).line],rdP rb,.slice (some ⟨w2.heap.size+1,0,none⟩) 1 1,v3,f 15,f 16,f 17,f 18,f 19,f 20,f 21,f 22,f 23,f 24,f 25,f 26,f 27,f 28,f 29,f 30,f 31,f 32,f 33,f 34,f 35,f 36,f 37,f 38,f 39,f 40,f 41,f 42,f 43,f 44,f 45,f 46,f 47,f 48,f 49,f 50,f 51,f 52,f 53,f 54,f 55,f 56,f 57,f 58,f 59,f 60,f 61,f 62,f 63,f 64,f 65,f 66,f 67,f 68,f 69,f 70,f 71,f 72,f 73,f 74,f 75,f 76,f 77,f 78,f 79,f 80,f 81,f 82,f 83,f 84,f 85,f 86,f 87,f 88,f 89,undef],defers:=[] }) (fun _ w9 => ∃ g cap d,TrU wr.heap.size w9 d [x] (.slice (some ⟨g,0,none⟩) 1 cap)∧x.ok∧Blk w9 w8.heap.size 29 #[.int .i64 12,.string ⟨ks.toArray⟩,.int .i64 0,.slice (some ⟨g,0,none⟩) 1 cap,.int .i64 (hereF last l2).line]∧St w9 rb last r4∧TurnR rb wr w9) ?h14 ?q14
        case h14 =>
         go_region_law (first
          | (refine step_append_rowP (Bk:=(fun k=>wr.heap.size≤k∧k≠w8.heap.size)) (B:=w8.heap.size+1) (v := .slice none 0 0) (acc:=[]) (by rfl) _ _ (by rfl) (by rfl) RowP.nil0 [(x,.slice A7 x.l.length c7)] ⟨w7.heap.size,0,none⟩ 1 1 (by rfl) (by rfl) (World.news_of_block (Blk.new w7 29 #[.int .i64 x.op,.string x.s,.int .i64 x.n,.slice A7 x.l.length c7,.int .i64 x.line])) (by intro p hp;simp only [List.mem_singleton] at hp;subst hp;exact ⟨HOK7.out,d7,TrP.weaken (fun k _ (hk:w10.heap.size≤k)=>⟨⟨by omega,by omega⟩,by simp [Value.ownBlock]⟩) (HTX7.out.al (.cells #[.int .i64 x.op,.string x.s,.int .i64 x.n,.slice A7 x.l.length c7,.int .i64 x.line] 29))⟩) (by simp) (by simp) (by rw [World.size_alloc];omega) ?_;intro g cap w8' hrow8 hgrow8 hat8 hlt8;have hn8:=(hp7.alloc (.cells #[.int .i64 x.op,.string x.s,.int .i64 x.n,.slice A7 x.l.length c7,.int .i64 x.line] 29)).grown hgrow8 (by simp [Value.ownBlock]);obtain ⟨⟨s0,s1,s2,s3,s4⟩,r0,r1,r2,r3,r4⟩:=hn8.five;have hz8':=hn8.lt)
          | (go_simp;go_at_call 27;refine (R.expr _ _ _ HSD.out (LF.out.expr _ _ HM.out)).mono ?_;rintro e w7 ⟨⟨v7,rfl,hok7,d7,sl7,rfl,htr7⟩,hs7,ht7⟩;obtain ⟨A7,c7,rfl⟩:=htr7.form;have HOK7:=Lib.hid hok7;have HTX7:=Lib.hid htr7;have HS7:=Lib.hid hs7;have hp7:=HPD.out.tr ht7 (by omega);obtain ⟨⟨t0,t1,t2,t3,t4⟩,u0,u1,u2,u3,u4⟩:=hp7.five;have hz7:=hp7.lt;have hz6':w10.heap.size≤w7.heap.size:=ht7.size))
         all_goals
          have hgo:w8.heap.size+1≤g:=(hrow8.own g rfl).1
          have hs9:=((HS7.out.alloc (.cells #[.int .i64 x.op,.string x.s,.int .i64 x.n,.slice A7 x.l.length c7,.int .i64 x.line] 29)).grown hgrow8 (by simp [Value.ownBlock])).set' (g:=w8.heap.size) (j:=3) (by omega) (.slice (some ⟨g,0,none⟩) 1 cap)
          have ht9:=TurnR.set (p:=⟨w8.heap.size,3,none⟩) (TurnR.grown (TurnR.al (TurnR.trans TD.out ht7) (.cells #[.int .i64 x.op,.string x.s,.int .i64 x.n,.slice A7 x.l.length c7,.int .i64 x.line] 29)) hgrow8 (by simp [Value.ownBlock])) (by show wr.heap.size≤w8.heap.size;omega) (.slice (some ⟨g,0,none⟩) 1 cap)
          have hp9:Blk (w8'.setCell ⟨w8.heap.size,3,none⟩ (.slice (some ⟨g,0,none⟩) 1 cap)) w8.heap.size 29 #[.int .i64 12,.string ⟨ks.toArray⟩,.int .i64 0,.slice (some ⟨g,0,none⟩) 1 cap,.int .i64 (hereF last l2).line]:=by simpa using hn8.set_ 3 (.slice (some ⟨g,0,none⟩) 1 cap)
          have hgn:g≠w8.heap.size:=by omega
          have hr9:=hrow8.far (p:=⟨w8.heap.size,3,none⟩) (by show ¬ (wr.heap.size≤w8.heap.size∧w8.heap.size≠w8.heap.size);simp) (by intro e;exact hgn (by simpa [Value.ownBlock] using e)) (.slice (some ⟨g,0,none⟩) 1 cap)
          obtain ⟨d9,htr9⟩:=hr9.trees (fun k hk=>by have e:g=k:=(by simpa [Value.ownBlock] using hk);subst e;exact ⟨by omega,by omega⟩) (by show 1≤maxLen;decide)
          exact midN_normal (by kernel_rfl) ⟨g,cap,d9,htr9.weaken (fun k _ hk=>hk.1),HOK7.out,hp9,hs9,ht9⟩
        case q14 =>
         rintro f10 w11 ⟨g14,cap14,d14,htr,hokx,hp,hs,ht⟩
         obtain ⟨p,hpp⟩ : ∃ p,p=nd 12 ks [x] (hereF last l2).line:=⟨_,rfl⟩
         have HPE:=Lib.hid hpp
         have HPOK:Hid p.ok:=Lib.hid (by
          rw [hpp]
          refine nd_ok ?_ (by decide)
          rw [HKS.out]
          split
          ·rename_i h3;obtain ⟨_,q1,q2⟩:=HKH.out (by rw [h3];decide);have:=Lib.itoa_length_le (hereF last l2).t.n (by omega) (by omega);simp only [maxLen];omega
          ·by_cases h0:(hereF last l2).t.kind=0
           ·cases l2 with
            | nil=>simp [hereF,Tk.zero]
            | cons t l3=>have h5:=(HS1.out.ok (t:=t) (by simp)).k0;have h6:t.t.kind=0:=h0;omega
           ·have:=(HKH.out h0).1;simp only [maxLen];omega)
         have hp:Blk w11 w8.heap.size 29 #[.int .i64 p.op,.string p.s,.int .i64 p.n,.slice (some ⟨g14,0,none⟩) p.l.length cap14,.int .i64 p.line]:=by rw [hpp];exact hp
         have HTP:Hid (TrU wr.heap.size w11 d14 p.l (.slice (some ⟨g14,0,none⟩) p.l.length cap14)):=Lib.hid (by rw [hpp];exact htr)
         clear htr hokx hpp HS9 T9 HP9 HSD TD HPD p0 p1 p2 p3 p4 q0 q1 q2 q3 q4 HKS HKH
         obtain ⟨⟨p0,p1,p2,p3,p4⟩,-⟩:=hp.five
         have hp11:=hp.lt
         have hn11:=HNB.out.tr ht (by omega)
         obtain ⟨⟨n0,n1,n2,n3,n4⟩,-⟩:=hn11.five
         have hzn:w2.heap.size<w11.heap.size:=hn11.lt
         have HS11:=Lib.hid hs
         have T11:=Lib.hid ht
         have HR11:=Lib.hid (HR.out.tr ht (by omega))
         have HK11:=Lib.hid (HKB.out.tr ht (by omega))
         have HN11:=Lib.hid hn11
         have HRA:=Lib.hid (HR11.out.al (.cells #[.int .i64 p.op,.string p.s,.int .i64 p.n,.slice (some ⟨g14,0,none⟩) p.l.length cap14,.int .i64 p.line] 29))
         have HOWN:Hid (∀ k,(Value.slice A acc.length cA).ownBlock=some k→w2.heap.size+1≤k∧k<wr.heap.size):=Lib.hid HR.out.own
         clear hs ht hn11
         go_wp2_with (at_builtin;go_loud (refine wpList_append_row (v := .slice A acc.length cA) (acc:=acc) (B:=w2.heap.size+1) (W:=w11.alloc (.cells #[.int .i64 p.op,.string p.s,.int .i64 p.n,.slice (some ⟨g14,0,none⟩) p.l.length cap14,.int .i64 p.line] 29)) (by rfl) _ _ (by rfl) (by rfl) HRA.out [(p,.slice (some ⟨g14,0,none⟩) p.l.length cap14)] ⟨w11.heap.size,0,none⟩ 1 1 (by rfl) (by rfl) (World.news_of_block (Blk.new w11 29 #[.int .i64 p.op,.string p.s,.int .i64 p.n,.slice (some ⟨g14,0,none⟩) p.l.length cap14,.int .i64 p.line])) (by intro u hu;simp only [List.mem_singleton] at hu;subst hu;exact ⟨HPOK.out,d14,TrP.weaken (fun k _ (hk:wr.heap.size≤k)=>⟨by omega,fun e=>by have:=HOWN.out k e;omega⟩) (HTP.out.al (.cells #[.int .i64 p.op,.string p.s,.int .i64 p.n,.slice (some ⟨g14,0,none⟩) p.l.length cap14,.int .i64 p.line] 29))⟩) (by simp) (by have:=HLEN.out;simp;omega) (by rw [World.size_alloc];omega) ?_);intro g15 cap15 w12 hrow12 hgrow12 hat12 hlt12;have hn12:=(HN11.out.alloc (.cells #[.int .i64 p.op,.string p.s,.int .i64 p.n,.slice (some ⟨g14,0,none⟩) p.l.length cap14,.int .i64 p.line] 29)).grown hgrow12 (fun e=>by have:=HOWN.out _ e.symm;omega);obtain ⟨⟨s0,s1,s2,s3,s4⟩,r0,r1,r2,r3,r4⟩:=hn12.five;have hz12:=hn12.lt)
         have hrow12:RowT (w2.heap.size+1) w12 (acc++[p]) (.slice (some ⟨g15,0,none⟩) (acc.length+1) cap15):=hrow12
         have hgo:w2.heap.size+1≤g15:=(RowP.own (Bk:=fun k=>w2.heap.size+1≤k) hrow12 g15 rfl).1
         have hs14:=((HS11.out.alloc (.cells #[.int .i64 p.op,.string p.s,.int .i64 p.n,.slice (some ⟨g14,0,none⟩) p.l.length cap14,.int .i64 p.line] 29)).grown hgrow12 (fun k e=>by have:=HOWN.out k e;omega)).set' (g:=w2.heap.size) (j:=3) (by omega) (.slice (some ⟨g15,0,none⟩) (acc.length+1) cap15)
         have ht14:=TurnR.set (p:=⟨w2.heap.size,3,none⟩) (TurnR.grown (TurnR.al (TurnR.trans HT1.out T11.out) (.cells #[.int .i64 p.op,.string p.s,.int .i64 p.n,.slice (some ⟨g14,0,none⟩) p.l.length cap14,.int .i64 p.line] 29)) hgrow12 (fun k e=>by have:=HOWN.out k e;omega)) (by show w.heap.size≤w2.heap.size;omega) (.slice (some ⟨g15,0,none⟩) (acc.length+1) cap15)
         have hk14:=((HK11.out.alloc (.cells #[.int .i64 p.op,.string p.s,.int .i64 p.n,.slice (some ⟨g14,0,none⟩) p.l.length cap14,.int .i64 p.line] 29)).grown hgrow12 (fun e=>by have:=HOWN.out _ e.symm;omega)).far (p:=⟨w2.heap.size,3,none⟩) (by show w.heap.size≠w2.heap.size;omega) (.slice (some ⟨g15,0,none⟩) (acc.length+1) cap15)
         have hn14:Blk (w12.setCell ⟨w2.heap.size,3,none⟩ (.slice (some ⟨g15,0,none⟩) (acc.length+1) cap15)) w2.heap.size 29 #[.int .i64 11,.string ⟨#[]⟩,.int .i64 0,.slice (some ⟨g15,0,none⟩) (acc.length+1) cap15,.int .i64 (hereF last l).line]:=by simpa using hn12.set_ 3 (.slice (some ⟨g15,0,none⟩) (acc.length+1) cap15)
         have hr14:=hrow12.far (p:=⟨w2.heap.size,3,none⟩) (by show w2.heap.size<w2.heap.size+1;omega) (.slice (some ⟨g15,0,none⟩) (acc.length+1) cap15)
         have hz14:(w12.setCell ⟨w2.heap.size,3,none⟩ (.slice (some ⟨g15,0,none⟩) (acc.length+1) cap15)).heap.size=w12.heap.size:=by simp
         have HH:=Lib.hid (And.intro hs14 (And.intro ht14 (And.intro hk14 (And.intro hn14 (And.intro hr14 hz14)))))
         clear hz14 hs14 ht14 hk14 hn14 hr14 hrow12 hgrow12 hat12 hlt12 hn12 HS11 T11 HR11 HK11 HN11 HRA HTP
         go_wp2_with fail
         clear s0 s1 s2 s3 s4 r0 r1 r2 r3 r4 p0 p1 p2 p3 p4 n0 n1 n2 n3 n4
         have HH:=HH.out
         generalize w12.setCell ⟨w2.heap.size,3,none⟩ (.slice (some ⟨g15,0,none⟩) (acc.length+1) cap15)=w14 at HH ⊢
         obtain ⟨hs14,ht14,hk14,hn14,hr14,hz14⟩:=HH
         have HS14:=Lib.hid hs14
         have HT14:=Lib.hid ht14
         have HK14:=Lib.hid hk14
         have HN14:=Lib.hid hn14
         have HR14:=Lib.hid hr14
         have HZ14:=Lib.hid hz14
         clear hs14 ht14 hk14 hn14 hr14 hz14
         have hy5:(if atF [[44]] r4 then (fns last n).pairs (acc++[p]) r4.tail else (mustF last [125] r4).bind fun _ q => .ok (acc++[p]) q)=some yp:=by rw [HPE.out];exact HY4.out
         cases hc:atF [[44]] r4 with
         | true =>
          rw [hc,if_pos rfl] at hy5
          have HY5:=Lib.hid hy5
          have hrl:=at_len hc
          clear hy5
          refine (takes1 HS14.out ⟨#[44]⟩ _ ?hx7 _ hc).mono ?_
          case hx7=>exact HZ14.out.symm
          rintro e w15 ⟨rfl,hs,ht⟩
          replace hs:St w15 rb last r4.tail:=by simpa using hs
          have HS15:=Lib.hid hs
          have HT15:=Lib.hid (TurnR.trans HT14.out ht)
          have HK15:=Lib.hid (HK14.out.tr ht (by omega))
          have HN15:=Lib.hid (HN14.out.tr ht (by omega))
          have HR15:=Lib.hid (HR14.out.tr ht (by omega))
          clear hs ht
          go_wp2
          go_roundg n
          case measure=>omega
          case rel =>
           have hn9:=HN.out
           have hl9:=HLEN.out
           rw [List.length_tail] at hl3
           exact ⟨acc++[p],some ⟨g15,0,none⟩,cap15,r4.tail,by omega,by rw [List.length_append];exact HR15.out,by simp only [List.length_append,List.length_singleton,List.length_tail];omega,HS15.out,HT15.out,HK15.out,by rw [List.length_append];exact HN15.out,HY5.out⟩
         | false =>
          rw [hc,if_neg (by decide)] at hy5
          refine (takes1 HS14.out ⟨#[44]⟩ _ ?hx8 _ hc).mono ?_
          case hx8=>exact HZ14.out.symm
          rintro e w15 ⟨rfl,hs,ht⟩
          replace hs:St w15 rb last r4:=by simpa using hs
          have HS15:=Lib.hid hs
          have HT15:=Lib.hid (TurnR.trans HT14.out ht)
          have HK15:=Lib.hid (HK14.out.tr ht (by omega))
          have HN15:=Lib.hid (HN14.out.tr ht (by omega))
          have HR15:=Lib.hid (HR14.out.tr ht (by omega))
          clear hs ht HS14 HT14 HK14 HN14 HR14
          rcases bind_some hy5 with ⟨⟨c,ln⟩,h1,hyp⟩ | ⟨_,r6,h1,h6⟩
          ·have HM:=Lib.hid h1
           have HYE2:=Lib.hid (HYE.out _ _ hyp)
           clear h1 hy5 hyp
           go_wp2_with fail
           refine (must1 HS15.out ⟨#[125]⟩ _ ?hx9 _ HM.out).mono ?_
           case hx9=>simp
           rintro e w16 ⟨rfl,ht⟩
           exact ⟨rfl,PostS.err HYE2.out (TurnR.trans HT15.out ht)⟩
          have HM:=Lib.hid h1
          have HYO2:=Lib.hid (HYO.out _ _ (some_ok h6))
          clear h1 hy5 h6
          go_wp2_with fail
          refine (must1 HS15.out ⟨#[125]⟩ _ ?hx10 _ HM.out).mono ?_
          case hx10=>simp
          rintro e w16 ⟨⟨v16,rfl,-⟩,hs,ht⟩
          have HS2:=Lib.hid hs
          have HT2:=Lib.hid (TurnR.trans HT15.out ht)
          have HK2:=Lib.hid (HK15.out.tr ht (by omega))
          have hn2:=HN15.out.tr ht (by omega)
          obtain ⟨⟨a0,a1,a2,a3,a4⟩,-⟩:=hn2.five
          obtain ⟨⟨b0,b1,b2,b3,b4⟩,g0,g1,g2,g3,g4⟩:=HK2.out.five
          obtain ⟨d9,htr9⟩:=(HR15.out.tr ht (by omega)).treesU (by have:=HLEN.out;simp;omega)
          have HTR9:Hid (TrU (w.heap.size+1) w16 d9 (nd 11 [] (acc++[p]) (hereF last l).line).l (.slice (some ⟨g15,0,none⟩) (nd 11 [] (acc++[p]) (hereF last l).line).l.length cap15)):=Lib.hid (by have h:=htr9.weaken (B':=w.heap.size+1) (by omega);rw [show (nd 11 [] (acc++[p]) (hereF last l).line).l=acc++[p] from rfl,List.length_append];exact h)
          have hz16:=hn2.lt
          clear hs ht hn2 htr9
          go_wp2
          refine ret_node (HK2.out.set5 _ _ _ _ _) rfl rfl rfl ?_
          obtain ⟨q1,q2,q3⟩:=fin_old (x:=nd 11 [] (acc++[p]) (hereF last l).line) hlt HS2.out HT2.out (nd_ok (by decide) (by decide)) HTR9.out
          rw [show (nd 11 [] (acc++[p]) (hereF last l).line).l=acc++[p] from rfl,List.length_append] at q1 q2 q3
          exact PostS.ok HYO2.out q3 q1 q2
end
end Go.Proofs.YtjjdmiaonkailaaGreatDoor
