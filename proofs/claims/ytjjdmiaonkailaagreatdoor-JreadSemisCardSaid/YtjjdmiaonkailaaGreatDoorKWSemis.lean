/- WJSemis, packed. -/
import Derived.Test.YtjjdmiaonkailaaGreatDoorK46
import Derived.Test.YtjjdmiaonkailaaGreatDoorK47
import Derived.Test.YtjjdmiaonkailaaGreatDoorK49
import Derived.Deep.CutRange
import Derived.Lib.QuietBelow
import Derived.BigQuiet
import Derived.Deep.QuietTactic
namespace Go.Proofs.YtjjdmiaonkailaaGreatDoor
open Go.RowKit Go.Sort
mutual
theorem same_reflJ : ∀ (t:Tree),t.same t=true
 | .node o s n l i=>by
  simp only [Tree.same]
  rw [sames_reflJ l]
  simp
theorem sames_reflJ : ∀ (l:List Tree),sames l l=true
 | []=>rfl
 | t::ts=>by
  simp only [sames]
  rw [same_reflJ t,sames_reflJ ts]
  rfl
end
theorem same_line {l:List Tree} {a b:Int}:(nd 32 [] l a).same (nd 32 [] l b)=true:=by
 unfold nd
 simp only [Tree.same]
 rw [sames_reflJ l]
 simp
theorem lex_known {w:World} {s:ByteArray} {e:Ending} {w':World} {l:List Tl} (h:LexOut w s.data.toList e w') (hs:s.size≤20000) (hl:lexF s.data.toList=(l,0,0)) :
  ∃ A cap,e = .returned (.tuple #[.slice A l.length cap,.int .i64 0,.int .i64 0])∧TokSl w'.heap.size w' l (.slice A l.length cap)∧Below w.heap.size w w':=by
 obtain ⟨ts,at0,e0,A,cap,h1,rfl,_,h3,h4,_⟩:=h.toks hs
 rw [hl] at h1
 injection h1 with h1 h2
 injection h2 with h2 h5
 subst h1;subst h2;subst h5
 exact ⟨A,cap,rfl,h3,h4⟩
theorem node_boxS {w:World} {t:Tree} {A:Option Addr} {c:Nat}:Blk (w.alloc (.cells #[.int .i64 t.op,.string t.s,.int .i64 t.n,.slice A t.l.length c,.int .i64 t.line] 29)) w.heap.size 29 #[.int .i64 t.op,.string t.s,.int .i64 t.n,.slice A t.l.length c,.int .i64 t.line]:=Blk.new w _ _
theorem box_belowS (w:World) (t:Tree) (A:Option Addr) (c:Nat):Below w.heap.size w (w.alloc (.cells #[.int .i64 t.op,.string t.s,.int .i64 t.n,.slice A t.l.length c,.int .i64 t.line] 29)):=(Below.refl _ _).alloc (Nat.le_refl _) _
theorem some_prog {l:List Tl} {y:Except (Int × Int) (Tree × List Tl)} (h:progF (fuelF l) l=some y) (hr:Rise 0 l) : ∀ c ln,y = .error (c,ln)→c≠0∧0≤ln∧ln≤(lastF l:Int):=fun c ln e=>by
 rw [e] at h
 exact prog_err hr h
theorem no_err {t:Tree} {r:List Tl} {last:Nat} : ∀ c ln,(Except.ok (t,r):Except (Int × Int) (Tree × List Tl)) = .error (c,ln)→c≠0∧0≤ln∧ln≤(last:Int):=fun _ _ h=>by cases h
set_option maxRecDepth 100000 in
set_option maxHeartbeats 8000000 in
theorem wjsemis (w:World) (s:ByteArray) (hs:s.size≤maxLen) (hl:LaidJ w) (hr:Ready w) :
  Calls Tryz.prog 7 #[.string s] w fun e w'=>e = .returned (.bool true)∧Below w.heap.size w w':=by
 have HL:=Lib.hid hl
 have HR:=Lib.hid hr
 obtain ⟨x,hx⟩ : ∃ x,cut2 s=x:=⟨_,rfl⟩
 have hxs:x.size≤2000:=by rw [← hx];exact cut2_size s
 have HCUT:=Lib.hid (fun w9=>cut2_calls w9 s hs)
 rw [hx] at HCUT
 have HLEX:=Lib.hid (fun (z:ByteArray) (hz:z.size≤4000) w9 (h9:LaidJ w9)=>lex_calls w9 h9 z (by unfold maxLen;omega))
 have k1:¬ 9223372036854775807<x.size+2:=by omega
 have k2:¬ 9223372036854775807<1+x.size:=by omega
 have k3:¬ 9223372036854775807<1+x.size+2:=by omega
 clear hl hr hx
 go_enter Tryz.func7,Tryz.ntmps7
 go_wp2_with fail
 refine (shown4_calls w HR.out).mono ?_
 rintro e w1 ⟨rfl,hb1⟩
 have HB1:=Lib.hid hb1
 clear hb1
 go_wp2_with fail
 refine (HCUT.out w1).mono ?_
 rintro e w1' ⟨rfl,rfl⟩
 go_wp2_with fail
 refine (HLEX.out x (by omega) w1 (HL.out.below HB1.out)).mono ?_
 rintro e w2 h2
 obtain ⟨ps,pa,pe,A1,c1,hlx,rfl,-,htok,hb2,hpl,hrise,hok⟩:=h2.toks (by omega)
 have HB2:=Lib.hid (HB1.out.trans (hb2.mono HB1.out.size))
 have HLX:=Lib.hid hlx
 have HOK:=Lib.hid hok
 obtain ⟨y1,hy1⟩:=prog_some ps
 have HY1:=Lib.hid hy1
 have HE1:=Lib.hid (some_prog hy1 hrise)
 have HP1:=Lib.hid (parse_calls (fuelF ps) ps _ w2 htok (HR.out.below HB2.out) y1 hy1)
 clear h2 htok hb2 hrise hok hlx hy1
 go_wp2_with fail
 refine HP1.out.mono ?_
 rintro e w3 h3
 obtain ⟨t1,d1,B1,m1,l1,e1,rfl,hok1,hk1,hb3,hz1,hn1,-⟩:=h3.open HE1.out
 have hbx:=box_belowS w3 t1 B1 m1
 have hbk:=node_boxS (w:=w3) (t:=t1) (A:=B1) (c:=m1)
 have hb4:=hb3.trans (hbx.mono hb3.size)
 have hk2:=hk1.below hbx
 have HZ1:=Lib.hid hz1
 clear h3 hn1 hz1 hk1 HP1 hbx hb3
 go_upto_region 4 with fail
 obtain ⟨wa,hwa⟩ : ∃ z,w3.alloc (.cells #[.int .i64 t1.op,.string t1.s,.int .i64 t1.n,.slice B1 t1.l.length m1,.int .i64 t1.line] 29)=z:=⟨_,rfl⟩
 rw [hwa] at hbk hb4 hk2 ⊢
 have HBA:=Lib.hid (HB2.out.trans (hb4.mono HB2.out.size))
 have HBK:=Lib.hid hbk
 have HK:=Lib.hid hk2
 clear hwa hb4 hbk hk2
 cases hpe:(pe==0) with
 | false =>
  have hp0:¬ pe=0:=by simpa using hpe
  go_wp2
  go_ret
  exact ⟨rfl,HBA.out⟩
 | true =>
  obtain rfl:pe=0:=by simpa using hpe
  clear hpe
  by_cases he1:e1=0
  ·subst he1
   obtain ⟨rfl,hr1,r1,rfl⟩:=HZ1.out rfl
   by_cases hn:ps.length=0
   ·go_wp2
    go_ret
    exact ⟨rfl,HBA.out⟩
   ·have hkd : ∀ t ∈ ps,1≤t.t.kind:=fun t ht=>(HOK.out t ht).k0
    obtain ⟨j1,hj1⟩:=lexF_semi (s:=x.data.toList) (by rw [← size_len];exact hxs) (by rw [HLX.out])
    obtain ⟨j2,hj2⟩:=lexF_braces (s:=x.data.toList) (by rw [← size_len];exact hxs) (by rw [HLX.out])
    rw [HLX.out] at hj1 hj2
    obtain ⟨hp1,ln2,hy2⟩:=semi_read hkd (s:=⟨⟨5,[59],0⟩,j1,true⟩) rfl rfl rfl HY1.out
    obtain ⟨ln3,ln4,hy3⟩:=brace_read hkd (o:=⟨⟨5,[123],0⟩,1,false⟩) (s:=⟨⟨5,[125],0⟩,j2,true⟩) rfl rfl rfl rfl rfl HY1.out
    generalize ps++[(⟨⟨5,[59],0⟩,j1,true⟩:Tl)]=ts at hj1 hy2
    generalize (⟨⟨5,[123],0⟩,1,false⟩:Tl)::(ps++[⟨⟨5,[125],0⟩,j2,true⟩])=us at hj2 hy3
    have HY2:=Lib.hid hy2
    have HY3:=Lib.hid hy3
    have HP:=Lib.hid hp1
    have HJ1:Hid (lexF (x++⟨#[10,59]⟩).data.toList=(ts,0,0)):=Lib.hid (by rw [← hj1];simp)
    have HJ2:Hid (lexF (⟨#[123]⟩++x++⟨#[10,125]⟩).data.toList=(us,0,0)):=Lib.hid (by rw [← hj2];simp)
    clear hj1 hj2 hy2 hy3 hp1 hkd
    go_wp2_with fail
    refine (HCUT.out wa).mono ?_
    rintro e w1' ⟨rfl,rfl⟩
    go_wp2_with fail
    refine (HLEX.out _ (by rw [ByteArray.size_append];show x.size+2≤4000;omega) wa (HL.out.below HBA.out)).mono ?_
    rintro e w5 h5
    obtain ⟨A5,c5,rfl,htok5,hb5⟩:=lex_known h5 (by rw [ByteArray.size_append];show x.size+2≤20000;omega) HJ1.out
    have HB5:=Lib.hid hb5
    have HP5:=Lib.hid (parse_calls (fuelF ts) ts _ w5 htok5 (HR.out.below (HBA.out.trans (hb5.mono HBA.out.size))) _ HY2.out)
    clear h5 htok5 hb5
    go_wp2_with fail
    refine HP5.out.mono ?_
    rintro e w6 h6
    obtain ⟨t2,d2,B2,m2,l2,e2,rfl,hok2,hk6,hb6,hz2,-,hc2⟩:=h6.open (last:=0) no_err
    have hr2:rightB (nd 32 [] t1.l ln2)=true:=by
     rw [HP.out] at hr1
     exact hr1
    have he2:=hc2 _ _ rfl
    rw [hr2,if_pos rfl] at he2
    subst he2
    obtain ⟨rfl,-,r2,hq2⟩:=hz2 rfl
    obtain rfl:nd 32 [] t1.l ln2=t2:=by
     injection hq2 with hq2
     injection hq2
    have hbx6:=box_belowS w6 (nd 32 [] t1.l ln2) B2 m2
    have hbk6:=node_boxS (w:=w6) (t:=nd 32 [] t1.l ln2) (A:=B2) (c:=m2)
    have hb7:=(HB5.out.trans (hb6.mono HB5.out.size)).trans (hbx6.mono (HB5.out.trans (hb6.mono HB5.out.size)).size)
    have hk7:=hk6.below hbx6
    clear h6 hk6 hb6 hbx6 HP5 hc2 hz2 hq2
    go_upto_region 8 with fail
    obtain ⟨wb,hwb⟩ : ∃ z,w6.alloc (.cells #[.int .i64 (nd 32 [] t1.l ln2).op,.string (nd 32 [] t1.l ln2).s,.int .i64 (nd 32 [] t1.l ln2).n,.slice B2 (nd 32 [] t1.l ln2).l.length m2,.int .i64 (nd 32 [] t1.l ln2).line] 29)=z:=⟨_,rfl⟩
    rw [hwb] at hbk6 hb7 hk7 ⊢
    have HB7:=Lib.hid hb7
    have HBK6:=Lib.hid hbk6
    have HK7:=Lib.hid hk7
    clear hwb hb7 hbk6 hk7
    go_wp2_with fail
    refine (HCUT.out wb).mono ?_
    rintro e w1' ⟨rfl,rfl⟩
    go_wp2_with fail
    refine (HLEX.out _ (by rw [ByteArray.size_append,ByteArray.size_append];show 1+x.size+2≤4000;omega) wb (HL.out.below (HBA.out.trans (HB7.out.mono HBA.out.size)))).mono ?_
    rintro e w8 h8
    obtain ⟨A8,c8,rfl,htok8,hb8⟩:=lex_known h8 (by rw [ByteArray.size_append,ByteArray.size_append];show 1+x.size+2≤20000;omega) HJ2.out
    have HB8:=Lib.hid (HB7.out.trans (hb8.mono HB7.out.size))
    have HBQ8:=Lib.hid hb8
    have HP8:=Lib.hid (parse_calls (fuelF us) us _ w8 htok8 (HR.out.below (HBA.out.trans (HB8.out.mono HBA.out.size))) _ HY3.out)
    clear h8 htok8 hb8
    go_wp2_with fail
    refine HP8.out.mono ?_
    rintro e w9 h9
    obtain ⟨t3,d3,B3,m3,l3,e3,rfl,hok3,hk9,hb9,hz3,hn3,hc3⟩:=h9.open (last:=0) no_err
    have HE3:=Lib.hid (hc3 _ _ rfl)
    have hbx9:=box_belowS w9 t3 B3 m3
    have hbk9:=node_boxS (w:=w9) (t:=t3) (A:=B3) (c:=m3)
    have hbq:=(HBQ8.out.trans (hb9.mono HBQ8.out.size)).trans (hbx9.mono (HBQ8.out.trans (hb9.mono HBQ8.out.size)).size)
    have hb10:=HB7.out.trans (hbq.mono HB7.out.size)
    have hk10:=hk9.below hbx9
    clear h9 hk9 hb9 hbx9 HP8 hc3
    go_upto_region 10 with fail
    obtain ⟨wc,hwc⟩ : ∃ z,w9.alloc (.cells #[.int .i64 t3.op,.string t3.s,.int .i64 t3.n,.slice B3 t3.l.length m3,.int .i64 t3.line] 29)=z:=⟨_,rfl⟩
    rw [hwc] at hbk9 hbq hb10 hk10 ⊢
    have HB10:=Lib.hid hb10
    have HKA:=Lib.hid (HK.out.below hb10)
    have HKB:=Lib.hid (HK7.out.below hbq)
    have hba:=HBK.out.keep (hb10.block _ HBK.out.lt)
    have hbb:=HBK6.out.keep (hbq.block _ HBK6.out.lt)
    have HBKA:=Lib.hid hba
    have HBKC:=Lib.hid hbk9
    obtain ⟨⟨a0,a1,a2,a3,a4⟩,-⟩:=hba.five
    obtain ⟨⟨b0,b1,b2,b3,b4⟩,-⟩:=hbb.five
    have HSM:=Lib.hid (psame_calls d1 d2 wc t1 (nd 32 [] t1.l ln2) _ _ HKA.out HKB.out)
    have hsame:t1.same (nd 32 [] t1.l ln2)=true:=by
     have:=same_line (l:=t1.l) (a:=t1.line) (b:=ln2)
     rw [← HP.out] at this
     exact this
    rw [hsame] at HSM
    clear hwc hb10 hbq hba hbb hsame
    go_wp2_with (go_at_call 19;refine HSM.out.mono ?_;rintro e w11 ⟨rfl,hb11⟩;have HB11:=Lib.hid hb11;clear hb11 a0 a1 a2 a3 a4 b0 b1 b2 b3 b4)
    have he3:=HE3.out
    have hb12:=HB10.out.trans (HB11.out.mono HB10.out.size)
    have HBF:=Lib.hid (HBA.out.trans (hb12.mono HBA.out.size))
    have HBQ:=Lib.hid (fun dq osq=>HBF.out.trans ((below_regrown w11 dq osq).mono HBF.out.size))
    clear hb12
    cases hr3:rightB (nd 32 [] [nd 32 [] t1.l ln3] ln4) with
    | false =>
     rw [hr3,if_neg (by decide)] at he3
     subst he3
     clear hz3 hn3 hk10 hbk9
     refine wp_region_quiet_below (by kernel_rfl) (by kernel_rfl) ?_
     repeat (first
      | go_big_quiet_skip
      | quiet_step (fail))
     refine wpQuiet_nil ?_
     intro _ hw'
     obtain ⟨⟨dq,osq⟩,rfl⟩:=hw'
     go_wp2
     go_ret
     exact ⟨rfl,HBQ.out dq osq⟩
    | true =>
     rw [hr3,if_pos rfl] at he3
     subst he3
     obtain ⟨rfl,-,r3,hq3⟩:=hz3 rfl
     obtain rfl:nd 32 [] [nd 32 [] t1.l ln3] ln4=t3:=by
      injection hq3 with hq3
      injection hq3
     cases d3 with
     | zero=>exact absurd hk10.1 (by simp [nd,Tree.l])
     | succ d3 =>
      obtain ⟨_,A9,c9,hv9,hat⟩:=hk10
      obtain ⟨a,sl,hA,hab,hos,q0,q1,q2,q3,q4,hq⟩:=hat 0 (nd 32 [] t1.l ln3) rfl
      obtain rfl:B3=some a:=by
       injection hv9 with h _ _
       rw [h,hA]
      obtain ⟨_,A7,c7,rfl⟩:=hq.form
      have hbr:=HBKC.out.keep (HB11.out.block _ HBKC.out.lt)
      have hba:=HBKA.out.keep (HB11.out.block _ HBKA.out.lt)
      have ec : ∀ p:Addr,p.block=a.block→w11.cell? p=wc.cell? p:=fun p hp=>World.cell?_of_block (HB11.out.block _ (by rw [hp];exact hab.1))
      have f3:w11.cell? ⟨w9.heap.size,3,none⟩=some (.slice (some a) 1 m3):=hbr.cell 3
      obtain ⟨⟨a0,a1,a2,a3,a4⟩,-⟩:=hba.five
      have p0:w11.cell? a=some (.int .i64 (nd 32 [] t1.l ln3).op):=(ec _ rfl).trans q0
      have p1:w11.cell? ⟨a.block,a.off+1,none⟩=some (.string (nd 32 [] t1.l ln3).s):=(ec ⟨a.block,a.off+1,none⟩ rfl).trans q1
      have p2:w11.cell? ⟨a.block,a.off+2,none⟩=some (.int .i64 (nd 32 [] t1.l ln3).n):=(ec ⟨a.block,a.off+2,none⟩ rfl).trans q2
      have p3:w11.cell? ⟨a.block,a.off+3,none⟩=some (.slice A7 (nd 32 [] t1.l ln3).l.length c7):=(ec ⟨a.block,a.off+3,none⟩ rfl).trans q3
      have p4:w11.cell? ⟨a.block,a.off+4,none⟩=some (.int .i64 (nd 32 [] t1.l ln3).line):=(ec ⟨a.block,a.off+4,none⟩ rfl).trans q4
      have H2:=Lib.hid (fun w19 (h19:Below wc.heap.size wc w19)=>psame_calls d3 d1 w19 (nd 32 [] t1.l ln3) t1 _ _ (hq.below h19) (HKA.out.below h19))
      have hsame:(nd 32 [] t1.l ln3).same t1=true:=by
       have:=same_line (l:=t1.l) (a:=ln3) (b:=t1.line)
       rw [← HP.out] at this
       exact this
      rw [hsame] at H2
      have HBW:=Lib.hid (fun dq osq=>HB11.out.trans ((below_regrown w11 dq osq).mono HB11.out.size))
      clear hsame q0 q1 q2 q3 q4 hat hv9 hA hz3 hn3 hq3 hbr hba ec hbk9 hr3
      have g3:=cell_regrown f3
      have i0:=cell_regrown a0
      have i1:=cell_regrown a1
      have i2:=cell_regrown a2
      have i3:=cell_regrown a3
      have i4:=cell_regrown a4
      have j0:=cell_regrown p0
      have j1:=cell_regrown p1
      have j2:=cell_regrown p2
      have j3:=cell_regrown p3
      have j4:=cell_regrown p4
      clear f3 a0 a1 a2 a3 a4 p0 p1 p2 p3 p4
      refine wp_region_quiet_below (by kernel_rfl) (by kernel_rfl) ?_
      repeat (first
       | go_big_quiet_skip
       | quiet_step ((go_at_call 19;exact Calls.regrown_of (H2.out _ (HBW.out _ _)))))
      refine wpQuiet_nil ?_
      intro _ hw'
      obtain ⟨⟨dq,osq⟩,rfl⟩:=hw'
      go_wp2
      go_ret
      exact ⟨rfl,HBQ.out dq osq⟩
  ·go_wp2
   go_ret
   exact ⟨rfl,HBA.out⟩
end Go.Proofs.YtjjdmiaonkailaaGreatDoor
