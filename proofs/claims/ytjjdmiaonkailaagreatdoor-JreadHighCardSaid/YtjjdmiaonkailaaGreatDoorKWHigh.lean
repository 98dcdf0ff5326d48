/- WJHigh, packed. -/
import Derived.Test.YtjjdmiaonkailaaGreatDoorK46
import Derived.Test.YtjjdmiaonkailaaGreatDoorK47
import Derived.Test.YtjjdmiaonkailaaGreatDoorK17
import Derived.Deep.CutRange
namespace Go.Proofs.YtjjdmiaonkailaaGreatDoor
open Go.RowKit Go.Sort
theorem high_out (k:Nat):highS 0 (k+1)=40::(highS 0 k++[41]):=by
 have h:List.replicate (k+1) (41:UInt8)=List.replicate k 41++[41]:=List.replicate_succ'
 unfold highS
 rw [h,List.replicate_succ]
 simp
theorem high_not (n m:Nat):highS (n+1) m=33::highS n m:=by simp [highS,List.replicate_succ]
theorem node_boxH {w:World} {t:Tree} {A:Option Addr} {c:Nat}:Blk (w.alloc (.cells #[.int .i64 t.op,.string t.s,.int .i64 t.n,.slice A t.l.length c,.int .i64 t.line] 29)) w.heap.size 29 #[.int .i64 t.op,.string t.s,.int .i64 t.n,.slice A t.l.length c,.int .i64 t.line]:=Blk.new w _ _
theorem box_belowH (w:World) (t:Tree) (A:Option Addr) (c:Nat):Below w.heap.size w (w.alloc (.cells #[.int .i64 t.op,.string t.s,.int .i64 t.n,.slice A t.l.length c,.int .i64 t.line] 29)):=(Below.refl _ _).alloc (Nat.le_refl _) _
theorem same_noT:noT.same noT=true:=by decide +kernel
set_option maxRecDepth 100000 in
set_option maxHeartbeats 8000000 in
theorem wjhigh_main (w:World) (n m:Nat) (hn:n≤1000) (hm:m≤1000) (hr:Ready w) :
  Calls Tryz.prog 3 #[.int .i64 (n:Int),.int .i64 (m:Int)] w fun e w'=>e = .returned (.bool true)∧Below w.heap.size w w':=by
 have HR:=Lib.hid hr
 clear hr
 have g1:¬ (n:Int)<0:=by omega
 have g2:¬ (1000:Int)<(n:Int):=by omega
 have g3:¬ (m:Int)<0:=by omega
 have g4:¬ (1000:Int)<(m:Int):=by omega
 go_enter Tryz.func3,Tryz.ntmps3
 go_wp2_with fail
 refine (shown4_calls w HR.out).mono ?_
 rintro e w1 ⟨rfl,hb1⟩
 have HB1:=Lib.hid hb1
 clear hb1
 go_wp2_with fail
 go_loopw [6,7] (fun s i wr => ∃ (k:Nat) (sb:ByteArray),k≤m∧i = .int .i64 k∧s = .string sb∧sb.data.toList=highS 0 k∧wr=w1) (fun _ i _=>m-(intOf i).toNat)
 case atStart=>exact ⟨0,⟨#[97]⟩,by omega,rfl,rfl,rfl,by trivial⟩
 case round =>
  obtain ⟨k,sb,hk,rfl,rfl,hsb,rfl⟩:=hrel
  have HSB:=Lib.hid hsb
  have hsz:sb.size=2*k+1:=by
   have:=congrArg List.length hsb
   rw [← size_len,highS_len] at this
   omega
  clear hsb
  by_cases hlt:k<m
  ·have k1:¬ 9223372036854775807<1+sb.size:=by omega
   have k2:¬ 9223372036854775807<1+sb.size+1:=by omega
   go_wp2
   go_roundw
   case rel=>exact ⟨k+1,_,by omega,by go_num,rfl,by rw [high_out,← HSB.out];simp,by trivial⟩
   case measure=>simp [intOf];omega
  ·obtain rfl:k=m:=by omega
   have hd:decide ((k:Int)<(k:Int))=false:=by simp
   go_wp2_with fail
   clear hd hsz hlt
   obtain ⟨wa,hwa⟩ : ∃ z,z=wr:=⟨_,rfl⟩
   subst hwa
   go_loopw [6,8] (fun s i wr => ∃ (j:Nat) (sb:ByteArray),j≤n∧i = .int .i64 j∧s = .string sb∧sb.data.toList=highS j k∧wr=wa) (fun _ i _=>n-(intOf i).toNat)
   case atStart=>exact ⟨0,sb,by omega,rfl,rfl,HSB.out,by trivial⟩
   case round =>
    obtain ⟨j,sc,hj,rfl,rfl,hsc,rfl⟩:=hrel
    have HSC:=Lib.hid hsc
    have hsz:sc.size=j+2*k+1:=by
     have:=congrArg List.length hsc
     rw [← size_len,highS_len] at this
     omega
    clear hsc
    by_cases hlt:j<n
    ·have k1:¬ 9223372036854775807<1+sc.size:=by omega
     go_wp2
     go_roundw
     case rel=>exact ⟨j+1,_,by omega,by go_num,rfl,by rw [high_not,← HSC.out];simp,by trivial⟩
     case measure=>simp [intOf];omega
    ·obtain rfl:j=n:=by omega
     have hd:decide ((j:Int)<(j:Int))=false:=by simp
     have HLX:=Lib.hid (rlex_calls wr sc (by omega) (j+2*k+2) (highT j k) (by rw [HSC.out];exact rl_bang k j _ (by omega)) (by rw [highT_len];omega))
     have HOKS:=Lib.hid (rlexB_ok (j+2*k+2) sc.data.toList 1 false (highT j k) (by rw [← size_len];omega) (by rw [← size_len];omega) (by rw [HSC.out];exact rl_bang k j _ (by omega)))
     clear hsz
     go_wp2_with fail
     refine HLX.out.mono ?_
     rintro e w4 ⟨A4,c4,rfl,hown,hb4⟩
     have HT4:=Lib.hid (own_toks hown rfl (by rw [highT_len];omega) HOKS.out)
     have HB4:=Lib.hid (HB1.out.trans (hb4.mono HB1.out.size))
     have HP:=Lib.hid (parseExpr_calls _ (highT j k) _ w4 HT4.out (HR.out.below HB4.out) _ (high_sole j k))
     clear hown hb4
     go_wp2_with fail
     refine HP.out.mono ?_
     rintro e w5 h5
     obtain ⟨t2,d2,B2,k2,l2,e2,rfl,hok2,hk2,hb5,hz2,hn2,hy2⟩:=h5.open (last:=0) (fun _ _ h=>by cases h)
     have he2:=hy2 _ _ rfl
     rw [rightE_nots] at he2
     have HB5:=Lib.hid (HB4.out.trans (hb5.mono HB4.out.size))
     clear h5 hy2 hb5 hd HP HLX
     go_upto_region 15 with fail
     have hbx:=box_belowH w5 t2 B2 k2
     have hbk:=node_boxH (w:=w5) (t:=t2) (A:=B2) (c:=k2)
     have HBX:=Lib.hid (HB5.out.trans (hbx.mono HB5.out.size))
     have HK6:=Lib.hid (hk2.below hbx)
     obtain ⟨wf,hwf⟩ : ∃ z,w5.alloc (.cells #[.int .i64 t2.op,.string t2.s,.int .i64 t2.n,.slice B2 t2.l.length k2,.int .i64 t2.line] 29)=z:=⟨_,rfl⟩
     rw [hwf] at HBX HK6 hbk ⊢
     clear hwf hbx hk2
     by_cases hj1:j+1≤100
     ·rw [if_pos (by simpa using hj1)] at he2
      subst he2
      obtain ⟨rfl,hrt,_⟩:=hz2 rfl
      have HRE:=Lib.hid (rightExpr_calls d2 wf t2 _ ((HR.out.below HBX.out).laid _ (Below.refl _ _)) HK6.out hok2)
      rw [hrt] at HRE
      obtain ⟨⟨a0,a1,a2,a3,a4⟩,-⟩:=hbk.five
      have hj2:¬ (100:Int)<(j:Int)+1:=by omega
      clear hbk hn2 hz2 hrt hok2
      go_wp2_with (go_at_call 13;refine HRE.out.mono ?_;rintro e w7 ⟨rfl,hb7⟩;have HB7:=Lib.hid (HBX.out.trans (hb7.mono HBX.out.size));clear hb7)
      go_ret
      exact ⟨rfl,HB7.out⟩
     ·rw [if_neg (by simpa using hj1)] at he2
      subst he2
      obtain ⟨rfl,rfl,rfl,q1,q2⟩:=hn2 (by decide)
      obtain rfl:l2=0:=by simp at q2;omega
      have HSM:=Lib.hid (rsame_calls 0 0 wf noT noT (.slice none 0 0) (.slice none 0 0) ⟨rfl,none,0,rfl⟩ ⟨rfl,none,0,rfl⟩)
      rw [same_noT] at HSM
      have hb1:Blk wf w5.heap.size 29 #[.int .i64 0,.string ⟨#[]⟩,.int .i64 0,.slice none 0 0,.int .i64 0]:=hbk
      obtain ⟨⟨a0,a1,a2,a3,a4⟩,-⟩:=hb1.five
      have hj2:(100:Int)<(j:Int)+1:=by omega
      clear hbk hn2 hz2 hb1
      go_wp2_with (go_at_call 12;refine HSM.out.mono ?_;rintro e w7 ⟨rfl,hb7⟩;have HB7:=Lib.hid (HBX.out.trans (hb7.mono HBX.out.size));clear hb7)
      go_ret
      exact ⟨rfl,HB7.out⟩
set_option maxRecDepth 100000 in
set_option maxHeartbeats 2000000 in
theorem wjhigh_out (w:World) (n m:Int) (hr:Ready w) (h:(decide (n<0)||decide (1000<n)||decide (m<0)||decide (1000<m))=true) :
  Calls Tryz.prog 3 #[.int .i64 n,.int .i64 m] w fun e w'=>e = .returned (.bool true)∧Below w.heap.size w w':=by
 have HR:=Lib.hid hr
 clear hr
 cases h1:decide (n<0) with
 | true =>
  go_enter Tryz.func3,Tryz.ntmps3
  go_wp2_with fail
  refine (shown4_calls w HR.out).mono ?_
  rintro e w1 ⟨rfl,hb1⟩
  have HB1:=Lib.hid hb1
  clear hb1
  go_wp2_with fail
  go_ret
  exact ⟨rfl,HB1.out⟩
 | false =>
  cases h2:decide (1000<n) with
  | true =>
   go_enter Tryz.func3,Tryz.ntmps3
   go_wp2_with fail
   refine (shown4_calls w HR.out).mono ?_
   rintro e w1 ⟨rfl,hb1⟩
   have HB1:=Lib.hid hb1
   clear hb1
   go_wp2_with fail
   go_ret
   exact ⟨rfl,HB1.out⟩
  | false =>
   cases h3:decide (m<0) with
   | true =>
    go_enter Tryz.func3,Tryz.ntmps3
    go_wp2_with fail
    refine (shown4_calls w HR.out).mono ?_
    rintro e w1 ⟨rfl,hb1⟩
    have HB1:=Lib.hid hb1
    clear hb1
    go_wp2_with fail
    go_ret
    exact ⟨rfl,HB1.out⟩
   | false =>
    have h4:decide (1000<m)=true:=by rw [h1,h2,h3] at h;exact h
    go_enter Tryz.func3,Tryz.ntmps3
    go_wp2_with fail
    refine (shown4_calls w HR.out).mono ?_
    rintro e w1 ⟨rfl,hb1⟩
    have HB1:=Lib.hid hb1
    clear hb1
    go_wp2_with fail
    go_ret
    exact ⟨rfl,HB1.out⟩
theorem wjhigh (w:World) (n m:Int) (hr:Ready w) :
  Calls Tryz.prog 3 #[.int .i64 n,.int .i64 m] w fun e w'=>e = .returned (.bool true)∧Below w.heap.size w w':=by
 by_cases h:(decide (n<0)||decide (1000<n)||decide (m<0)||decide (1000<m))=true
 ·exact wjhigh_out w n m hr h
 ·simp only [Bool.or_eq_true,decide_eq_true_eq,not_or] at h
  obtain ⟨⟨⟨h1,h2⟩,h3⟩,h4⟩:=h
  obtain ⟨a,rfl⟩ : ∃ a:Nat,n=(a:Int):=⟨n.toNat,by omega⟩
  obtain ⟨b,rfl⟩ : ∃ b:Nat,m=(b:Int):=⟨m.toNat,by omega⟩
  exact wjhigh_main w a b (by omega) (by omega) hr
end Go.Proofs.YtjjdmiaonkailaaGreatDoor
