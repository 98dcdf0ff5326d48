/- WErrors, packed. -/
import Derived.Test.YtjjdmiaonkailaaGreatDoorK46
import Derived.Test.YtjjdmiaonkailaaGreatDoorK47
import Derived.Deep.CutRange
namespace Go.Proofs.YtjjdmiaonkailaaGreatDoor
open Go.RowKit Go.Sort
theorem node_box {w:World} {t:Tree} {A:Option Addr} {c:Nat}:Blk (w.alloc (.cells #[.int .i64 t.op,.string t.s,.int .i64 t.n,.slice A t.l.length c,.int .i64 t.line] 29)) w.heap.size 29 #[.int .i64 t.op,.string t.s,.int .i64 t.n,.slice A t.l.length c,.int .i64 t.line]:=Blk.new w _ _
theorem box_below (w:World) (t:Tree) (A:Option Addr) (c:Nat):Below w.heap.size w (w.alloc (.cells #[.int .i64 t.op,.string t.s,.int .i64 t.n,.slice A t.l.length c,.int .i64 t.line] 29)):=(Below.refl _ _).alloc (Nat.le_refl _) _
theorem last_line {l:List Tl} (h:l≠[]) : ∃ t,l[l.length-1]? = some t∧lastF l=t.line:=by
 have hl:=List.length_pos_iff.2 h
 obtain ⟨t,ht⟩ : ∃ t,l[l.length-1]? = some t:=⟨_,List.getElem?_eq_getElem (by omega)⟩
 refine ⟨t,ht,?_⟩
 unfold lastF
 rw [List.getLast?_eq_getElem?,ht]
 rfl
set_option maxRecDepth 100000 in
set_option maxHeartbeats 8000000 in
theorem werrors (w:World) (s:ByteArray) (hs:s.size≤maxLen) (hl:LaidJ w) (hr:Ready w) :
  Calls Tryz.prog 4 #[.string s] w fun e w'=>e = .returned (.bool true)∧Below w.heap.size w w':=by
 have HL:=Lib.hid hl
 have HR:=Lib.hid hr
 obtain ⟨x,hx⟩ : ∃ x,cut2 s=x:=⟨_,rfl⟩
 have hxs:x.size≤2000:=by rw [← hx];exact cut2_size s
 have HCUT:=Lib.hid (fun w9=>cut2_calls w9 s hs)
 rw [hx] at HCUT
 have HLEX:=Lib.hid (fun w9 (h9:LaidJ w9)=>lex_calls w9 h9 x (by unfold maxLen;omega))
 clear hl hr hx
 go_enter Tryz.func4,Tryz.ntmps4
 go_wp2_with fail
 refine (shown4_calls w HR.out).mono ?_
 rintro e w1 ⟨rfl,hb1⟩
 have HB1:=Lib.hid hb1
 clear hb1
 go_wp2_with fail
 refine (HCUT.out w1).mono ?_
 rintro e w1' ⟨rfl,rfl⟩
 go_wp2_with fail
 refine (HLEX.out w1 (HL.out.below HB1.out)).mono ?_
 rintro e w2 h2
 obtain ⟨ps,pa,pe,A1,c1,hlx,rfl,hown1,htok,hb2,hpl,hrise,hok⟩:=h2.toks (by omega)
 have HB2:=Lib.hid (HB1.out.trans (hb2.mono HB1.out.size))
 have HT:=Lib.hid htok
 have HRI:=Lib.hid hrise
 have HO:=Lib.hid hown1
 have hpl2:ps.length≤2000:=by omega
 clear h2 hlx hown1 htok hb2 hpl hrise hok
 obtain ⟨y1,hy1⟩:=prog_some ps
 obtain ⟨y2,hy2⟩:=sole_some ps
 have HY1:Hid (∀ c ln,y1 = .error (c,ln)→c≠0∧0≤ln∧ln≤(lastF ps:Int)):=Lib.hid fun c ln h=>by
  rw [h] at hy1
  exact prog_err HRI.out hy1
 have HY2:Hid (∀ c ln,y2 = .error (c,ln)→c≠0∧0≤ln∧ln≤(lastF ps:Int)):=Lib.hid fun c ln h=>by
  rw [h] at hy2
  exact sole_err HRI.out hy2
 have HP1:=Lib.hid (parse_calls (fuelF ps) ps _ w2 HT.out (HR.out.below HB2.out) y1 hy1)
 have HP2:=Lib.hid (fun w9 (h9:Below w2.heap.size w2 w9)=>parseExpr_calls (fuelF ps) ps _ w9 ((HT.out.keep fun k hk=>h9.block k hk).mono h9.size) (HR.out.below (HB2.out.trans (h9.mono HB2.out.size))) y2 hy2)
 clear hy1 hy2
 go_wp2_with fail
 refine HP1.out.mono ?_
 rintro e w3 h3
 obtain ⟨t1,d1,B1,k1,l1,e1,rfl,hok1,hk1,hb3,hz1,hn1,-⟩:=h3.open HY1.out
 have hbx:=box_below w3 t1 B1 k1
 have hbk:=node_box (w:=w3) (t:=t1) (A:=B1) (c:=k1)
 have HB3:=Lib.hid (hb3.trans (hbx.mono hb3.size))
 have HK1:=Lib.hid (hk1.below hbx)
 have HBK1:=Lib.hid hbk
 have HOK1:=Lib.hid hok1
 have HZ1:=Lib.hid hz1
 have HN1:=Lib.hid hn1
 clear h3 hk1 hbx hbk hb3 hok1 hz1 hn1 HP1
 go_wp2_with fail
 refine (HP2.out _ HB3.out).mono ?_
 rintro e w5 h5
 obtain ⟨t2,d2,B2,k2,l2,e2,rfl,hok2,hk2,hb5,hz2,hn2,-⟩:=h5.open HY2.out
 have hbx:=box_below w5 t2 B2 k2
 have hbk:=node_box (w:=w5) (t:=t2) (A:=B2) (c:=k2)
 have HB5:=Lib.hid (HB3.out.trans ((hb5.trans (hbx.mono hb5.size)).mono HB3.out.size))
 have HK2:=Lib.hid (hk2.below hbx)
 have HBK2:=Lib.hid hbk
 have hlt1:=HBK1.out.lt
 have HBK1':=Lib.hid (HBK1.out.keep ((hb5.trans (hbx.mono hb5.size)).block _ hlt1))
 have HK1':=Lib.hid (HK1.out.below (hb5.trans (hbx.mono hb5.size)))
 have HOK2:=Lib.hid hok2
 have HZ2:=Lib.hid hz2
 have HN2:=Lib.hid hn2
 clear h5 hk2 hbx hbk hb5 hok2 hz2 hn2 HP2 HBK1 HK1 hlt1
 have HBW:=Lib.hid (HB2.out.trans (HB5.out.mono HB2.out.size))
 have HRW:=Lib.hid (HR.out.below HBW.out)
 go_upto_region 5 with fail
 obtain ⟨wf,hwf⟩ : ∃ z,w5.alloc (.cells #[.int .i64 t2.op,.string t2.s,.int .i64 t2.n,.slice B2 t2.l.length k2,.int .i64 t2.line] 29)=z:=⟨_,rfl⟩
 have hlf:w5.heap.size<wf.heap.size:=by rw [← hwf,World.size_alloc];omega
 have hlg:=HBK1'.out.lt
 rw [hwf] at HBK1' HBK2 HK1' HK2 HBW HRW HB5 hlg ⊢
 clear hwf
 have HT5:=Lib.hid (HT.out.keep fun k hk=>HB5.out.block k hk)
 cases hpe:(pe==0) with
 | false =>
  have hp0:¬ pe=0:=by simpa using hpe
  go_wp2
  go_ret
  exact ⟨rfl,HBW.out⟩
 | true =>
  obtain rfl:pe=0:=by simpa using hpe
  clear hpe
  have HL1:=Lib.hid (right_calls d1 wf t1 _ (HRW.out.laid _ (Below.refl _ _)) HK1'.out HOK1.out)
  have HL2:=Lib.hid (fun w9 (h9:Below wf.heap.size wf w9)=>rightExpr_calls d2 w9 t2 _ (HRW.out.laid _ h9) (HK2.out.below h9) HOK2.out)
  by_cases hn:ps=[]
  ·subst hn
   have hla:lastF []=0:=rfl
   rw [hla] at HN1 HN2
   simp only [List.length_nil]
   clear HT HO HT5 HRI HY1 HY2 hpl2 hla
   by_cases he1:e1=0
   ·subst he1
    obtain ⟨rfl,hr1,-⟩:=HZ1.out rfl
    rw [hr1] at HL1
    obtain ⟨⟨a0,a1,a2,a3,a4⟩,-⟩:=HBK1'.out.five
    by_cases he2:e2=0
    ·subst he2
     obtain ⟨rfl,hr2,-⟩:=HZ2.out rfl
     rw [hr2] at HL2
     clear HZ1 HZ2 HN1 HN2 hr1 hr2
     go_wp2_with first
      | (go_at_call 13;refine (HL2.out w6 HB6.out).mono ?_;rintro e w7 ⟨rfl,hb7⟩;have HB7:=Lib.hid (HB6.out.trans (hb7.mono HB6.out.size));clear hb7)
      | (go_at_call 17;refine HL1.out.mono ?_;rintro e w6 ⟨rfl,hb6⟩;have HB6:=Lib.hid hb6;have hk6:=HBK2.out.keep (hb6.block _ hlf);obtain ⟨⟨b0,b1,b2,b3,b4⟩,-⟩:=hk6.five;clear hk6 hb6 a0 a1 a2 a3 a4)
     go_ret
     exact ⟨rfl,HBW.out.trans (HB7.out.mono HBW.out.size)⟩
    ·obtain ⟨rfl,rfl,rfl,m1,m2⟩:=HN2.out he2
     have HB2L:Hid (Blk wf w5.heap.size 29 #[.int .i64 0,.string ⟨#[]⟩,.int .i64 0,.slice none 0 0,.int .i64 0]):=HBK2
     clear HZ1 HZ2 HN1 HN2 hr1
     go_wp2_with (go_at_call 17;refine HL1.out.mono ?_;rintro e w6 ⟨rfl,hb6⟩;have HB6:=Lib.hid hb6;have hk6:=HB2L.out.keep (hb6.block _ hlf);obtain ⟨⟨b0,b1,b2,b3,b4⟩,-⟩:=hk6.five;clear hk6 hb6 a0 a1 a2 a3 a4)
     go_ret
     exact ⟨rfl,HBW.out.trans (HB6.out.mono HBW.out.size)⟩
   ·obtain ⟨rfl,rfl,rfl,m1,m2⟩:=HN1.out he1
    have HB1L:Hid (Blk wf w3.heap.size 29 #[.int .i64 0,.string ⟨#[]⟩,.int .i64 0,.slice none 0 0,.int .i64 0]):=HBK1'
    obtain ⟨⟨a0,a1,a2,a3,a4⟩,-⟩:=HB1L.out.five
    have m3:¬ l1<0:=by omega
    have m4:¬ (0:Int)<l1:=by omega
    by_cases he2:e2=0
    ·subst he2
     obtain ⟨rfl,hr2,-⟩:=HZ2.out rfl
     rw [hr2] at HL2
     obtain ⟨⟨b0,b1,b2,b3,b4⟩,-⟩:=HBK2.out.five
     clear HZ1 HZ2 HN1 HN2 hr2
     go_wp2_with (go_at_call 13;refine (HL2.out wf (Below.refl _ _)).mono ?_;rintro e w7 ⟨rfl,hb7⟩;have HB7:=Lib.hid hb7;clear hb7)
     go_ret
     exact ⟨rfl,HBW.out.trans (HB7.out.mono HBW.out.size)⟩
    ·obtain ⟨rfl,rfl,rfl,m5,m6⟩:=HN2.out he2
     have HB2L:Hid (Blk wf w5.heap.size 29 #[.int .i64 0,.string ⟨#[]⟩,.int .i64 0,.slice none 0 0,.int .i64 0]):=HBK2
     obtain ⟨⟨b0,b1,b2,b3,b4⟩,-⟩:=HB2L.out.five
     clear HZ1 HZ2 HN1 HN2
     go_wp2
     go_ret
     exact ⟨rfl,HBW.out⟩
  ·obtain ⟨tl,htl,hla⟩:=last_line hn
   obtain ⟨_,A9,c9,hv9,hat9⟩:=HT5.out
   obtain ⟨g,o,hA9,_,_,hcell⟩:=hat9 _ _ htl
   obtain rfl:A1=some ⟨g,o,none⟩:=by
    injection hv9 with h _ _
    rw [h,hA9]
   rw [hla] at HN1 HN2
   have hpos:=List.length_pos_iff.2 hn
   obtain ⟨m,hm⟩ : ∃ m,ps.length=m+1:=⟨ps.length-1,by omega⟩
   have hc3:wf.cell? ⟨g,o+m*5+3,none⟩=some (.int .i64 (tl.line:Int)):=by
    have:=hcell 3 (by omega)
    rw [hm,Nat.add_sub_cancel,← Nat.add_assoc] at this
    exact this
   rw [hm]
   have hml:m≤2000:=by omega
   clear hat9 hcell HT HO HT5 HRI HY1 HY2 hpl2 hla htl hpos hm hv9 hA9
   by_cases he1:e1=0
   ·subst he1
    obtain ⟨rfl,hr1,-⟩:=HZ1.out rfl
    rw [hr1] at HL1
    obtain ⟨⟨a0,a1,a2,a3,a4⟩,-⟩:=HBK1'.out.five
    by_cases he2:e2=0
    ·subst he2
     obtain ⟨rfl,hr2,-⟩:=HZ2.out rfl
     rw [hr2] at HL2
     clear HZ1 HZ2 HN1 HN2 hr1 hr2
     go_wp2_with first
      | (go_at_call 13;refine (HL2.out w6 HB6.out).mono ?_;rintro e w7 ⟨rfl,hb7⟩;have HB7:=Lib.hid (HB6.out.trans (hb7.mono HB6.out.size));clear hb7)
      | (go_at_call 17;refine HL1.out.mono ?_;rintro e w6 ⟨rfl,hb6⟩;have HB6:=Lib.hid hb6;have hk6:=HBK2.out.keep (hb6.block _ hlf);obtain ⟨⟨b0,b1,b2,b3,b4⟩,-⟩:=hk6.five;clear hk6 hb6 a0 a1 a2 a3 a4)
     go_ret
     exact ⟨rfl,HBW.out.trans (HB7.out.mono HBW.out.size)⟩
    ·obtain ⟨rfl,rfl,rfl,m1,m2⟩:=HN2.out he2
     have HB2L:Hid (Blk wf w5.heap.size 29 #[.int .i64 0,.string ⟨#[]⟩,.int .i64 0,.slice none 0 0,.int .i64 0]):=HBK2
     clear HZ1 HZ2 HN1 HN2 hr1
     go_wp2_with (go_at_call 17;refine HL1.out.mono ?_;rintro e w6 ⟨rfl,hb6⟩;have HB6:=Lib.hid hb6;have hk6:=HB2L.out.keep (hb6.block _ hlf);obtain ⟨⟨b0,b1,b2,b3,b4⟩,-⟩:=hk6.five;clear hk6 hb6 a0 a1 a2 a3 a4)
     go_ret
     exact ⟨rfl,HBW.out.trans (HB6.out.mono HBW.out.size)⟩
   ·obtain ⟨rfl,rfl,rfl,m1,m2⟩:=HN1.out he1
    have HB1L:Hid (Blk wf w3.heap.size 29 #[.int .i64 0,.string ⟨#[]⟩,.int .i64 0,.slice none 0 0,.int .i64 0]):=HBK1'
    obtain ⟨⟨a0,a1,a2,a3,a4⟩,-⟩:=HB1L.out.five
    have m3:¬ l1<0:=by omega
    have m4:¬ (tl.line:Int)<l1:=by omega
    by_cases he2:e2=0
    ·subst he2
     obtain ⟨rfl,hr2,-⟩:=HZ2.out rfl
     rw [hr2] at HL2
     obtain ⟨⟨b0,b1,b2,b3,b4⟩,-⟩:=HBK2.out.five
     clear HZ1 HZ2 HN1 HN2 hr2
     go_wp2_with (go_at_call 13;refine (HL2.out wf (Below.refl _ _)).mono ?_;rintro e w7 ⟨rfl,hb7⟩;have HB7:=Lib.hid hb7;clear hb7)
     go_ret
     exact ⟨rfl,HBW.out.trans (HB7.out.mono HBW.out.size)⟩
    ·obtain ⟨rfl,rfl,rfl,m5,m6⟩:=HN2.out he2
     have HB2L:Hid (Blk wf w5.heap.size 29 #[.int .i64 0,.string ⟨#[]⟩,.int .i64 0,.slice none 0 0,.int .i64 0]):=HBK2
     obtain ⟨⟨b0,b1,b2,b3,b4⟩,-⟩:=HB2L.out.five
     clear HZ1 HZ2 HN1 HN2
     go_wp2
     go_ret
     exact ⟨rfl,HBW.out⟩
end Go.Proofs.YtjjdmiaonkailaaGreatDoor
