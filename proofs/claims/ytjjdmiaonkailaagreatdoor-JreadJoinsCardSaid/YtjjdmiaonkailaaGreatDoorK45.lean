/- Walks and plain laws, packed: Parse1, Parse2, TxA. -/
import Derived.Test.YtjjdmiaonkailaaGreatDoorK44
import Derived.Test.YtjjdmiaonkailaaGreatDoorK17
namespace Go.Proofs.YtjjdmiaonkailaaGreatDoor
section
open Go.RowKit Go.Sort
set_option maxRecDepth 100000 in
set_option maxHeartbeats 8000000 in
theorem parse_calls (f:Nat) (l:List Tl) (v:Value) (w:World) (hv:TokSl w.heap.size w l v) (hr:Ready w) (y:Except (Int × Int) (Tree × List Tl)) (hy:progF f l=some y):Calls Tryz.prog 16 #[v] w (ParseP rightB w y):=by
 have HIS:=Lib.hid isR_right
 generalize rightB=fR at HIS ⊢
 have hb1:Below w.heap.size w (w.alloc (.cells zeroN 29)):=(Below.refl _ _).alloc (Nat.le_refl _) _
 have hz1:(w.alloc (.cells zeroN 29)).heap.size=w.heap.size+1:=World.size_alloc _ _
 have HR1:=Lib.hid (hr.below hb1)
 have HV1:Hid (TokSl (w.alloc (.cells zeroN 29)).heap.size (w.alloc (.cells zeroN 29)) l v):=Lib.hid ((hv.keep fun k hk=>hb1.block k hk).mono (by omega))
 have hk1:=Blk.new w 29 zeroN
 have HY:=Lib.hid hy
 have HB1:=Lib.hid hb1
 clear hv hr hy hb1
 go_enter Tryz.func16,Tryz.ntmps16
 go_wp2_with fail
 refine (read_calls _ true l v _ HV1.out HR1.out.laid _ (one_stmts f l) y HY.out).mono ?_
 intro e w2 hq
 rcases y with ⟨c,ln⟩ | ⟨t,r⟩
 ·obtain ⟨j,g,he,hjc,hgc,hlj,hlg,hb2⟩:=hq
  subst he
  have hk2:=hk1.keep (hb2.block _ (by omega))
  have hz2:=hb2.size
  have hR2:=HR1.out.below hb2
  have hb3:Below (w.alloc (.cells zeroN 29)).heap.size (w.alloc (.cells zeroN 29)) (w2.alloc (.cells zeroN 29)):=hb2.alloc hz2 _
  have HBB:=Lib.hid (HB1.out.trans (hb3.mono (by omega)))
  have HK3:=Lib.hid (hk2.alloc (.cells zeroN 29))
  have HR3:=Lib.hid (HR1.out.below hb3)
  have HTD:=Lib.hid (told_fault 17 (w2.alloc (.cells zeroN 29)) c ln j g HR3.out.et HR3.out.pos (by rw [World.cell?_alloc_lt _ _ ⟨j,0,none⟩ hlj];exact hjc) (by rw [World.size_alloc];omega) (by rw [World.cell?_alloc_lt _ _ ⟨g,0,none⟩ hlg];exact hgc) (by rw [World.size_alloc];omega))
  clear hk1 hk2 hR2 hb2 hb3 hjc hgc
  go_wp2_with fail
  refine HTD.out.mono ?_
  rintro e w5 ⟨rfl,hb4⟩
  have hk5:=HK3.out.keep (hb4.block _ (by rw [World.size_alloc];omega))
  have hb5:Below w.heap.size w w5:=HBB.out.trans (hb4.mono (by rw [World.size_alloc];omega))
  have hz5:=hk5.lt
  obtain ⟨⟨b0,b1,b2,b3,b4⟩,g0,g1,g2,g3,g4⟩:=hk5.five
  have HE:=Lib.hid (And.intro ((hk5).set5 (.int .i64 0) (.string ⟨#[]⟩) (.int .i64 0) (.slice none 0 0) (.int .i64 0)) (show Below w.heap.size w (sets5 w5 w.heap.size (.int .i64 0) (.string ⟨#[]⟩) (.int .i64 0) (.slice none 0 0) (.int .i64 0)) from hb5.trans ⟨rfl,rfl,rfl,by simp [sets5,World.setCell],fun k hk=>by unfold sets5;rw [Below.heap_setCell _ _ _ _ (by show k≠w.heap.size;omega),Below.heap_setCell _ _ _ _ (by show k≠w.heap.size;omega),Below.heap_setCell _ _ _ _ (by show k≠w.heap.size;omega),Below.heap_setCell _ _ _ _ (by show k≠w.heap.size;omega),Below.heap_setCell _ _ _ _ (by show k≠w.heap.size;omega)]⟩))
  clear hk5 hb5 hb4 HK3 HTD
  go_wp2
  refine ret_three HE.out.1 rfl rfl rfl rfl rfl ?_
  exact ⟨rfl,HE.out.2⟩
 ·obtain ⟨d,A,c,he,hok,htr,hb2⟩:=hq
  subst he
  have hk2:=hk1.keep (hb2.block _ (by omega))
  have hz2:=hb2.size
  have hb3:Below (w.alloc (.cells zeroN 29)).heap.size (w.alloc (.cells zeroN 29)) (w2.alloc (.cells #[.int .i64 t.op,.string t.s,.int .i64 t.n,.slice A t.l.length c,.int .i64 t.line] 29)):=hb2.alloc hz2 _
  have HBB:=Lib.hid (HB1.out.trans (hb3.mono (by omega)))
  have HK3:=Lib.hid (hk2.alloc (.cells #[.int .i64 t.op,.string t.s,.int .i64 t.n,.slice A t.l.length c,.int .i64 t.line] 29))
  have HR3:=Lib.hid (HR1.out.below hb3)
  have HTR3:Hid (TrU (w.heap.size+1) (w2.alloc (.cells #[.int .i64 t.op,.string t.s,.int .i64 t.n,.slice A t.l.length c,.int .i64 t.line] 29)) d t.l (.slice A t.l.length c)):=Lib.hid (TrU.weaken (by omega) (htr.al (.cells #[.int .i64 t.op,.string t.s,.int .i64 t.n,.slice A t.l.length c,.int .i64 t.line] 29)))
  have HTD:=Lib.hid (told_tree HIS.out (w2.alloc (.cells #[.int .i64 t.op,.string t.s,.int .i64 t.n,.slice A t.l.length c,.int .i64 t.line] 29)) t A c d HTR3.out.kids HR3.out.laid hok)
  have HOK:=Lib.hid hok
  clear hk1 hk2 hb2 hb3 htr hok
  go_wp2_with fail
  refine HTD.out.mono ?_
  rintro e w5 ⟨rfl,hb4⟩
  have hk5:=HK3.out.keep (hb4.block _ (by rw [World.size_alloc];omega))
  have hb5:Below w.heap.size w w5:=HBB.out.trans (hb4.mono (by rw [World.size_alloc];omega))
  have hz5:=hk5.lt
  have htr5:=TrP.turn (fun k _ hs=>hb4.block k hs) hb4.size HTR3.out
  obtain ⟨⟨b0,b1,b2,b3,b4⟩,g0,g1,g2,g3,g4⟩:=hk5.five
  cases hft:fR t with
  | true =>
   have HE:=Lib.hid (And.intro ((hk5).set5 (.int .i64 t.op) (.string t.s) (.int .i64 t.n) (.slice A t.l.length c) (.int .i64 t.line)) (show Below w.heap.size w (sets5 w5 w.heap.size (.int .i64 t.op) (.string t.s) (.int .i64 t.n) (.slice A t.l.length c) (.int .i64 t.line)) from hb5.trans ⟨rfl,rfl,rfl,by simp [sets5,World.setCell],fun k hk=>by unfold sets5;rw [Below.heap_setCell _ _ _ _ (by show k≠w.heap.size;omega),Below.heap_setCell _ _ _ _ (by show k≠w.heap.size;omega),Below.heap_setCell _ _ _ _ (by show k≠w.heap.size;omega),Below.heap_setCell _ _ _ _ (by show k≠w.heap.size;omega),Below.heap_setCell _ _ _ _ (by show k≠w.heap.size;omega)]⟩))
   have HT5:Hid (TrU (w.heap.size+1) (sets5 w5 w.heap.size (.int .i64 t.op) (.string t.s) (.int .i64 t.n) (.slice A t.l.length c) (.int .i64 t.line)) d t.l (.slice A t.l.length c)):=Lib.hid ((((((htr5).far (p:=⟨w.heap.size,0,none⟩) (by show ¬ (w.heap.size+1≤w.heap.size);omega) (.int .i64 t.op)).far (p:=⟨w.heap.size,1,none⟩) (by show ¬ (w.heap.size+1≤w.heap.size);omega) (.string t.s)).far (p:=⟨w.heap.size,2,none⟩) (by show ¬ (w.heap.size+1≤w.heap.size);omega) (.int .i64 t.n)).far (p:=⟨w.heap.size,3,none⟩) (by show ¬ (w.heap.size+1≤w.heap.size);omega) (.slice A t.l.length c)).far (p:=⟨w.heap.size,4,none⟩) (by show ¬ (w.heap.size+1≤w.heap.size);omega) (.int .i64 t.line))
   clear hk5 hb5 hb4 HK3 HTD htr5
   go_wp2
   refine ret_three HE.out.1 rfl rfl rfl rfl rfl ?_
   exact ⟨d,A,c,(by first | rfl | (rw [hft];rfl)),HOK.out,TrU.weaken (by omega) HT5.out,HE.out.2⟩
  | false =>
   have HE:=Lib.hid (And.intro ((hk5).set5 (.int .i64 0) (.string ⟨#[]⟩) (.int .i64 0) (.slice none 0 0) (.int .i64 0)) (show Below w.heap.size w (sets5 w5 w.heap.size (.int .i64 0) (.string ⟨#[]⟩) (.int .i64 0) (.slice none 0 0) (.int .i64 0)) from hb5.trans ⟨rfl,rfl,rfl,by simp [sets5,World.setCell],fun k hk=>by unfold sets5;rw [Below.heap_setCell _ _ _ _ (by show k≠w.heap.size;omega),Below.heap_setCell _ _ _ _ (by show k≠w.heap.size;omega),Below.heap_setCell _ _ _ _ (by show k≠w.heap.size;omega),Below.heap_setCell _ _ _ _ (by show k≠w.heap.size;omega),Below.heap_setCell _ _ _ _ (by show k≠w.heap.size;omega)]⟩))
   have HT5:Hid (TrU (w.heap.size+1) (sets5 w5 w.heap.size (.int .i64 0) (.string ⟨#[]⟩) (.int .i64 0) (.slice none 0 0) (.int .i64 0)) d t.l (.slice A t.l.length c)):=Lib.hid ((((((htr5).far (p:=⟨w.heap.size,0,none⟩) (by show ¬ (w.heap.size+1≤w.heap.size);omega) (.int .i64 0)).far (p:=⟨w.heap.size,1,none⟩) (by show ¬ (w.heap.size+1≤w.heap.size);omega) (.string ⟨#[]⟩)).far (p:=⟨w.heap.size,2,none⟩) (by show ¬ (w.heap.size+1≤w.heap.size);omega) (.int .i64 0)).far (p:=⟨w.heap.size,3,none⟩) (by show ¬ (w.heap.size+1≤w.heap.size);omega) (.slice none 0 0)).far (p:=⟨w.heap.size,4,none⟩) (by show ¬ (w.heap.size+1≤w.heap.size);omega) (.int .i64 0))
   clear hk5 hb5 hb4 HK3 HTD htr5
   go_wp2
   refine ret_three HE.out.1 rfl rfl rfl rfl rfl ?_
   exact ⟨d,A,c,(by first | rfl | (rw [hft];rfl)),HOK.out,TrU.weaken (by omega) HT5.out,HE.out.2⟩
end
section
open Go.RowKit Go.Sort
set_option maxRecDepth 100000 in
set_option maxHeartbeats 8000000 in
theorem parseExpr_calls (f:Nat) (l:List Tl) (v:Value) (w:World) (hv:TokSl w.heap.size w l v) (hr:Ready w) (y:Except (Int × Int) (Tree × List Tl)) (hy:soleF f l=some y):Calls Tryz.prog 11 #[v] w (ParseP rightE w y):=by
 have HIS:=Lib.hid isR_expr
 generalize rightE=fR at HIS ⊢
 have hb1:Below w.heap.size w (w.alloc (.cells zeroN 29)):=(Below.refl _ _).alloc (Nat.le_refl _) _
 have hz1:(w.alloc (.cells zeroN 29)).heap.size=w.heap.size+1:=World.size_alloc _ _
 have HR1:=Lib.hid (hr.below hb1)
 have HV1:Hid (TokSl (w.alloc (.cells zeroN 29)).heap.size (w.alloc (.cells zeroN 29)) l v):=Lib.hid ((hv.keep fun k hk=>hb1.block k hk).mono (by omega))
 have hk1:=Blk.new w 29 zeroN
 have HY:=Lib.hid hy
 have HB1:=Lib.hid hb1
 clear hv hr hy hb1
 go_enter Tryz.func11,Tryz.ntmps11
 go_wp2_with fail
 refine (read_calls _ false l v _ HV1.out HR1.out.laid _ (one_expr f l) y HY.out).mono ?_
 intro e w2 hq
 rcases y with ⟨c,ln⟩ | ⟨t,r⟩
 ·obtain ⟨j,g,he,hjc,hgc,hlj,hlg,hb2⟩:=hq
  subst he
  have hk2:=hk1.keep (hb2.block _ (by omega))
  have hz2:=hb2.size
  have hR2:=HR1.out.below hb2
  have hb3:Below (w.alloc (.cells zeroN 29)).heap.size (w.alloc (.cells zeroN 29)) (w2.alloc (.cells zeroN 29)):=hb2.alloc hz2 _
  have HBB:=Lib.hid (HB1.out.trans (hb3.mono (by omega)))
  have HK3:=Lib.hid (hk2.alloc (.cells zeroN 29))
  have HR3:=Lib.hid (HR1.out.below hb3)
  have HTD:=Lib.hid (told_fault 13 (w2.alloc (.cells zeroN 29)) c ln j g HR3.out.et HR3.out.pos (by rw [World.cell?_alloc_lt _ _ ⟨j,0,none⟩ hlj];exact hjc) (by rw [World.size_alloc];omega) (by rw [World.cell?_alloc_lt _ _ ⟨g,0,none⟩ hlg];exact hgc) (by rw [World.size_alloc];omega))
  clear hk1 hk2 hR2 hb2 hb3 hjc hgc
  go_wp2_with fail
  refine HTD.out.mono ?_
  rintro e w5 ⟨rfl,hb4⟩
  have hk5:=HK3.out.keep (hb4.block _ (by rw [World.size_alloc];omega))
  have hb5:Below w.heap.size w w5:=HBB.out.trans (hb4.mono (by rw [World.size_alloc];omega))
  have hz5:=hk5.lt
  obtain ⟨⟨b0,b1,b2,b3,b4⟩,g0,g1,g2,g3,g4⟩:=hk5.five
  have HE:=Lib.hid (And.intro ((hk5).set5 (.int .i64 0) (.string ⟨#[]⟩) (.int .i64 0) (.slice none 0 0) (.int .i64 0)) (show Below w.heap.size w (sets5 w5 w.heap.size (.int .i64 0) (.string ⟨#[]⟩) (.int .i64 0) (.slice none 0 0) (.int .i64 0)) from hb5.trans ⟨rfl,rfl,rfl,by simp [sets5,World.setCell],fun k hk=>by unfold sets5;rw [Below.heap_setCell _ _ _ _ (by show k≠w.heap.size;omega),Below.heap_setCell _ _ _ _ (by show k≠w.heap.size;omega),Below.heap_setCell _ _ _ _ (by show k≠w.heap.size;omega),Below.heap_setCell _ _ _ _ (by show k≠w.heap.size;omega),Below.heap_setCell _ _ _ _ (by show k≠w.heap.size;omega)]⟩))
  clear hk5 hb5 hb4 HK3 HTD
  go_wp2
  refine ret_three HE.out.1 rfl rfl rfl rfl rfl ?_
  exact ⟨rfl,HE.out.2⟩
 ·obtain ⟨d,A,c,he,hok,htr,hb2⟩:=hq
  subst he
  have hk2:=hk1.keep (hb2.block _ (by omega))
  have hz2:=hb2.size
  have hb3:Below (w.alloc (.cells zeroN 29)).heap.size (w.alloc (.cells zeroN 29)) (w2.alloc (.cells #[.int .i64 t.op,.string t.s,.int .i64 t.n,.slice A t.l.length c,.int .i64 t.line] 29)):=hb2.alloc hz2 _
  have HBB:=Lib.hid (HB1.out.trans (hb3.mono (by omega)))
  have HK3:=Lib.hid (hk2.alloc (.cells #[.int .i64 t.op,.string t.s,.int .i64 t.n,.slice A t.l.length c,.int .i64 t.line] 29))
  have HR3:=Lib.hid (HR1.out.below hb3)
  have HTR3:Hid (TrU (w.heap.size+1) (w2.alloc (.cells #[.int .i64 t.op,.string t.s,.int .i64 t.n,.slice A t.l.length c,.int .i64 t.line] 29)) d t.l (.slice A t.l.length c)):=Lib.hid (TrU.weaken (by omega) (htr.al (.cells #[.int .i64 t.op,.string t.s,.int .i64 t.n,.slice A t.l.length c,.int .i64 t.line] 29)))
  have HTD:=Lib.hid (told_tree HIS.out (w2.alloc (.cells #[.int .i64 t.op,.string t.s,.int .i64 t.n,.slice A t.l.length c,.int .i64 t.line] 29)) t A c d HTR3.out.kids HR3.out.laid hok)
  have HOK:=Lib.hid hok
  clear hk1 hk2 hb2 hb3 htr hok
  go_wp2_with fail
  refine HTD.out.mono ?_
  rintro e w5 ⟨rfl,hb4⟩
  have hk5:=HK3.out.keep (hb4.block _ (by rw [World.size_alloc];omega))
  have hb5:Below w.heap.size w w5:=HBB.out.trans (hb4.mono (by rw [World.size_alloc];omega))
  have hz5:=hk5.lt
  have htr5:=TrP.turn (fun k _ hs=>hb4.block k hs) hb4.size HTR3.out
  obtain ⟨⟨b0,b1,b2,b3,b4⟩,g0,g1,g2,g3,g4⟩:=hk5.five
  cases hft:fR t with
  | true =>
   have HE:=Lib.hid (And.intro ((hk5).set5 (.int .i64 t.op) (.string t.s) (.int .i64 t.n) (.slice A t.l.length c) (.int .i64 t.line)) (show Below w.heap.size w (sets5 w5 w.heap.size (.int .i64 t.op) (.string t.s) (.int .i64 t.n) (.slice A t.l.length c) (.int .i64 t.line)) from hb5.trans ⟨rfl,rfl,rfl,by simp [sets5,World.setCell],fun k hk=>by unfold sets5;rw [Below.heap_setCell _ _ _ _ (by show k≠w.heap.size;omega),Below.heap_setCell _ _ _ _ (by show k≠w.heap.size;omega),Below.heap_setCell _ _ _ _ (by show k≠w.heap.size;omega),Below.heap_setCell _ _ _ _ (by show k≠w.heap.size;omega),Below.heap_setCell _ _ _ _ (by show k≠w.heap.size;omega)]⟩))
   have HT5:Hid (TrU (w.heap.size+1) (sets5 w5 w.heap.size (.int .i64 t.op) (.string t.s) (.int .i64 t.n) (.slice A t.l.length c) (.int .i64 t.line)) d t.l (.slice A t.l.length c)):=Lib.hid ((((((htr5).far (p:=⟨w.heap.size,0,none⟩) (by show ¬ (w.heap.size+1≤w.heap.size);omega) (.int .i64 t.op)).far (p:=⟨w.heap.size,1,none⟩) (by show ¬ (w.heap.size+1≤w.heap.size);omega) (.string t.s)).far (p:=⟨w.heap.size,2,none⟩) (by show ¬ (w.heap.size+1≤w.heap.size);omega) (.int .i64 t.n)).far (p:=⟨w.heap.size,3,none⟩) (by show ¬ (w.heap.size+1≤w.heap.size);omega) (.slice A t.l.length c)).far (p:=⟨w.heap.size,4,none⟩) (by show ¬ (w.heap.size+1≤w.heap.size);omega) (.int .i64 t.line))
   clear hk5 hb5 hb4 HK3 HTD htr5
   go_wp2
   refine ret_three HE.out.1 rfl rfl rfl rfl rfl ?_
   exact ⟨d,A,c,(by first | rfl | (rw [hft];rfl)),HOK.out,TrU.weaken (by omega) HT5.out,HE.out.2⟩
  | false =>
   have HE:=Lib.hid (And.intro ((hk5).set5 (.int .i64 0) (.string ⟨#[]⟩) (.int .i64 0) (.slice none 0 0) (.int .i64 0)) (show Below w.heap.size w (sets5 w5 w.heap.size (.int .i64 0) (.string ⟨#[]⟩) (.int .i64 0) (.slice none 0 0) (.int .i64 0)) from hb5.trans ⟨rfl,rfl,rfl,by simp [sets5,World.setCell],fun k hk=>by unfold sets5;rw [Below.heap_setCell _ _ _ _ (by show k≠w.heap.size;omega),Below.heap_setCell _ _ _ _ (by show k≠w.heap.size;omega),Below.heap_setCell _ _ _ _ (by show k≠w.heap.size;omega),Below.heap_setCell _ _ _ _ (by show k≠w.heap.size;omega),Below.heap_setCell _ _ _ _ (by show k≠w.heap.size;omega)]⟩))
   have HT5:Hid (TrU (w.heap.size+1) (sets5 w5 w.heap.size (.int .i64 0) (.string ⟨#[]⟩) (.int .i64 0) (.slice none 0 0) (.int .i64 0)) d t.l (.slice A t.l.length c)):=Lib.hid ((((((htr5).far (p:=⟨w.heap.size,0,none⟩) (by show ¬ (w.heap.size+1≤w.heap.size);omega) (.int .i64 0)).far (p:=⟨w.heap.size,1,none⟩) (by show ¬ (w.heap.size+1≤w.heap.size);omega) (.string ⟨#[]⟩)).far (p:=⟨w.heap.size,2,none⟩) (by show ¬ (w.heap.size+1≤w.heap.size);omega) (.int .i64 0)).far (p:=⟨w.heap.size,3,none⟩) (by show ¬ (w.heap.size+1≤w.heap.size);omega) (.slice none 0 0)).far (p:=⟨w.heap.size,4,none⟩) (by show ¬ (w.heap.size+1≤w.heap.size);omega) (.int .i64 0))
   clear hk5 hb5 hb4 HK3 HTD htr5
   go_wp2
   refine ret_three HE.out.1 rfl rfl rfl rfl rfl ?_
   exact ⟨d,A,c,(by first | rfl | (rw [hft];rfl)),HOK.out,TrU.weaken (by omega) HT5.out,HE.out.2⟩
end
section
open Go.RowKit Go.Sort
set_option maxRecDepth 100000 in
set_option maxHeartbeats 2000000 in
theorem text_1 (h:Nat) (t:Tree) (i:ByteArray) (hop:t.op=1):ExprT (h+1) t i:=by
 intro d w sl hl hk
 obtain ⟨hlen,A,c,rfl⟩:=hk.form
 unfold maxLen at hlen
 have HFL:Hid (T (h+1) t i.data.toList=t.s.data.toList):=Lib.hid (by simp [T,stepT,hop])
 rw [hop]
 have hopw : ∀ v:Value,Value.int .i64 t.op=v→v = .int .i64 1:=fun v e=>by rw [← e,hop]
 clear hopw
 obtain ⟨w0,hw0⟩ : ∃ w0,w.alloc (.cells #[.int .i64 1,.string t.s,.int .i64 t.n,.slice A t.l.length c,.int .i64 t.line] 29)=w0:=⟨_,rfl⟩
 obtain ⟨w1,hw1⟩ : ∃ w1,w0.alloc (.cells #[.string i] 9)=w1:=⟨_,rfl⟩
 have bx0:Blk5 w0 w.heap.size 1 t.s t.n (.slice A t.l.length c) t.line:=by rw [← hw0];exact blk5_new _ _ _ _ _ _
 have hb0:Below w.heap.size w w0:=by rw [← hw0];exact (Below.refl _ _).alloc (Nat.le_refl _) _
 have hb1:Below w0.heap.size w0 w1:=by rw [← hw1];exact (Below.refl _ _).alloc (Nat.le_refl _) _
 have hm:w1.cell? ⟨w0.heap.size,0,none⟩=some (.string i):=by rw [← hw1];exact cell_of_row _ _ 0 #[.string i] 9 (0,0) (heap_alloc_new _ _)
 have bx:=bx0.keep hb1
 have HB:=Lib.hid (hb0.trans (hb1.mono hb0.size))
 obtain ⟨c0,c1,c2,c3,c4⟩:=bx
 clear bx0 hb0 hb1 hl hk hop
 go_enter Tryz.func39,Tryz.ntmps39
 go_wp2
 go_ret
 exact ⟨by rw [HFL.out];cases t.s;rfl,HB.out⟩
set_option maxRecDepth 100000 in
set_option maxHeartbeats 2000000 in
theorem text_2 (h:Nat) (t:Tree) (i:ByteArray) (hop:t.op=2) (hn0:0≤t.n) (hn1:t.n≤999999999999999):ExprT (h+1) t i:=by
 intro d w sl hl hk
 obtain ⟨hlen,A,c,rfl⟩:=hk.form
 unfold maxLen at hlen
 have HFL:Hid (T (h+1) t i.data.toList=Lib.itoa t.n):=Lib.hid (by simp [T,stepT,hop])
 rw [hop]
 have hopw : ∀ v:Value,Value.int .i64 t.op=v→v = .int .i64 2:=fun v e=>by rw [← e,hop]
 clear hopw
 obtain ⟨w0,hw0⟩ : ∃ w0,w.alloc (.cells #[.int .i64 2,.string t.s,.int .i64 t.n,.slice A t.l.length c,.int .i64 t.line] 29)=w0:=⟨_,rfl⟩
 obtain ⟨w1,hw1⟩ : ∃ w1,w0.alloc (.cells #[.string i] 9)=w1:=⟨_,rfl⟩
 have bx0:Blk5 w0 w.heap.size 2 t.s t.n (.slice A t.l.length c) t.line:=by rw [← hw0];exact blk5_new _ _ _ _ _ _
 have hb0:Below w.heap.size w w0:=by rw [← hw0];exact (Below.refl _ _).alloc (Nat.le_refl _) _
 have hb1:Below w0.heap.size w0 w1:=by rw [← hw1];exact (Below.refl _ _).alloc (Nat.le_refl _) _
 have hm:w1.cell? ⟨w0.heap.size,0,none⟩=some (.string i):=by rw [← hw1];exact cell_of_row _ _ 0 #[.string i] 9 (0,0) (heap_alloc_new _ _)
 have bx:=bx0.keep hb1
 have HB:=Lib.hid (hb0.trans (hb1.mono hb0.size))
 have HC:=Lib.hid (Tryz.strconv_FormatInt_10 t.n (by omega) (by omega) w1 (hl.below HB.out).pow)
 obtain ⟨c0,c1,c2,c3,c4⟩:=bx
 clear bx0 hb0 hb1 hl hk hop
 go_enter Tryz.func39,Tryz.ntmps39
 go_wp2_with fail
 refine HC.out.mono ?_
 rintro e w' ⟨rfl,k,os,rfl⟩
 have HB2:Hid (Below w1.heap.size w1 (grow (w1.drewN k) os)):=Lib.hid (below_regrown w1 (w1.drawn+k) os)
 generalize grow (w1.drewN k) os=w2 at HB2 ⊢
 go_wp2
 go_ret
 exact ⟨by rw [HFL.out];rfl,HB.out.trans (HB2.out.mono HB.out.size)⟩
set_option maxRecDepth 100000 in
set_option maxHeartbeats 2000000 in
theorem text_3 (h:Nat) (t:Tree) (i:ByteArray) (hop:t.op=3) (hT:(T (h+1) t i.data.toList).length≤140737488355328) (hs:t.s.size≤maxLen):ExprT (h+1) t i:=by
 intro d w sl hl hk
 obtain ⟨hlen,A,c,rfl⟩:=hk.form
 unfold maxLen at hlen
 have HFL:Hid (T (h+1) t i.data.toList=quoteL t.s.data.toList):=Lib.hid (by simp [T,stepT,hop])
 rw [HFL.out] at hT
 rw [hop]
 have hopw : ∀ v:Value,Value.int .i64 t.op=v→v = .int .i64 3:=fun v e=>by rw [← e,hop]
 clear hopw
 obtain ⟨w0,hw0⟩ : ∃ w0,w.alloc (.cells #[.int .i64 3,.string t.s,.int .i64 t.n,.slice A t.l.length c,.int .i64 t.line] 29)=w0:=⟨_,rfl⟩
 obtain ⟨w1,hw1⟩ : ∃ w1,w0.alloc (.cells #[.string i] 9)=w1:=⟨_,rfl⟩
 have bx0:Blk5 w0 w.heap.size 3 t.s t.n (.slice A t.l.length c) t.line:=by rw [← hw0];exact blk5_new _ _ _ _ _ _
 have hb0:Below w.heap.size w w0:=by rw [← hw0];exact (Below.refl _ _).alloc (Nat.le_refl _) _
 have hb1:Below w0.heap.size w0 w1:=by rw [← hw1];exact (Below.refl _ _).alloc (Nat.le_refl _) _
 have hm:w1.cell? ⟨w0.heap.size,0,none⟩=some (.string i):=by rw [← hw1];exact cell_of_row _ _ 0 #[.string i] 9 (0,0) (heap_alloc_new _ _)
 have bx:=bx0.keep hb1
 have HB:=Lib.hid (hb0.trans (hb1.mono hb0.size))
 have HC:=Lib.hid (quote_calls w1 t.s hT hs)
 obtain ⟨c0,c1,c2,c3,c4⟩:=bx
 clear bx0 hb0 hb1 hl hk hop hT
 go_enter Tryz.func39,Tryz.ntmps39
 go_wp2_with fail
 refine HC.out.mono ?_
 rintro e w2 ⟨rfl,hb⟩
 have HB2:=Lib.hid hb
 clear hb
 go_wp2
 go_ret
 exact ⟨by rw [HFL.out];rfl,HB.out.trans (HB2.out.mono HB.out.size)⟩
set_option maxRecDepth 100000 in
set_option maxHeartbeats 2000000 in
theorem text_19 (h:Nat) (t a:Tree) (i:ByteArray) (hop:t.op=19) (hta:t.l=[a]) (hca:ExprT h a i) (hT:(T (h+1) t i.data.toList).length≤140737488355328):ExprT (h+1) t i:=by
 intro d w sl hl hk
 obtain ⟨hlen,A,c,rfl⟩:=hk.form
 unfold maxLen at hlen
 have HFL:Hid ((([⟨#[40,33]⟩,⟨(T h a i.data.toList).toArray⟩,⟨#[41]⟩]:List ByteArray).map (·.data.toList)).flatten=T (h+1) t i.data.toList):=Lib.hid (by simp [T,stepT,hop,hta])
 have HJ:Hid (∀ w9:World,Calls Tryz.prog 67 #[.slice (some ⟨w9.heap.size,0,none⟩) 3 3] (w9.alloc (.cells #[.string ⟨#[40,33]⟩,.string ⟨(T h a i.data.toList).toArray⟩,.string ⟨#[41]⟩] 9)) fun e w'=>e = .returned (.string ⟨(T (h+1) t i.data.toList).toArray⟩)∧Below w9.heap.size w9 w'):=Lib.hid fun w9=>by
  have:=join_at w9 [⟨#[40,33]⟩,⟨(T h a i.data.toList).toArray⟩,⟨#[41]⟩] (by simp) (by rw [HFL.out];exact hT)
  rw [HFL.out] at this
  exact this
 rw [hop]
 have hopw : ∀ v:Value,Value.int .i64 t.op=v→v = .int .i64 19:=fun v e=>by rw [← e,hop]
 clear hopw
 obtain ⟨w0,hw0⟩ : ∃ w0,w.alloc (.cells #[.int .i64 19,.string t.s,.int .i64 t.n,.slice A t.l.length c,.int .i64 t.line] 29)=w0:=⟨_,rfl⟩
 obtain ⟨w1,hw1⟩ : ∃ w1,w0.alloc (.cells #[.string i] 9)=w1:=⟨_,rfl⟩
 have bx0:Blk5 w0 w.heap.size 19 t.s t.n (.slice A t.l.length c) t.line:=by rw [← hw0];exact blk5_new _ _ _ _ _ _
 have hb0:Below w.heap.size w w0:=by rw [← hw0];exact (Below.refl _ _).alloc (Nat.le_refl _) _
 have hb1:Below w0.heap.size w0 w1:=by rw [← hw1];exact (Below.refl _ _).alloc (Nat.le_refl _) _
 have hm:w1.cell? ⟨w0.heap.size,0,none⟩=some (.string i):=by rw [← hw1];exact cell_of_row _ _ 0 #[.string i] 9 (0,0) (heap_alloc_new _ _)
 have bx:=bx0.keep hb1
 have HB:=Lib.hid (hb0.trans (hb1.mono hb0.size))
 have hhd:Held w1 w.heap.size w0.heap.size t A c i:=⟨by rw [hop];exact bx,hm⟩
 have HH:=Lib.hid hhd
 have HL:=Lib.hid (hl.below HB.out)
 have HK:=Lib.hid (hk.below HB.out)
 have HAa:=Lib.hid (fun (w9:World) (hb9:Below w1.heap.size w1 w9)=>at_calls w9 w.heap.size w0.heap.size t A c i (HH.out.below hb9) (HL.out.below hb9) d (HK.out.below hb9) 0 a (by rw [hta];rfl) h hca)
 obtain ⟨c0,c1,c2,c3,c4⟩:=bx
 clear bx0 hb0 hb1 hl hk hhd hT hop hta HFL hca
 generalize T h a i.data.toList=Xa at HJ HAa
 go_enter Tryz.func39,Tryz.ntmps39
 go_wp2_with (first
  | (go_at_call 70;refine (HAa.out w1 (Below.refl _ _)).mono ?_;rintro e v0 ⟨rfl,hb⟩;have HB_v0:=Lib.hid (hb);clear hb)
  | (go_at_call 67;refine (HJ.out _).mono ?_;rintro e wz ⟨rfl,hb⟩;have HBZ:=Lib.hid (HB_v0.out.trans (hb.mono HB_v0.out.size));clear hb))
 go_ret
 exact ⟨rfl,HB.out.trans (HBZ.out.mono HB.out.size)⟩
set_option maxRecDepth 100000 in
set_option maxHeartbeats 2000000 in
theorem text_20 (h:Nat) (t a:Tree) (i:ByteArray) (hop:t.op=20) (hta:t.l=[a]) (hca:ExprT h a i) (hT:(T (h+1) t i.data.toList).length≤140737488355328):ExprT (h+1) t i:=by
 intro d w sl hl hk
 obtain ⟨hlen,A,c,rfl⟩:=hk.form
 unfold maxLen at hlen
 have HFL:Hid ((([⟨#[40,45]⟩,⟨(T h a i.data.toList).toArray⟩,⟨#[41]⟩]:List ByteArray).map (·.data.toList)).flatten=T (h+1) t i.data.toList):=Lib.hid (by simp [T,stepT,hop,hta])
 have HJ:Hid (∀ w9:World,Calls Tryz.prog 67 #[.slice (some ⟨w9.heap.size,0,none⟩) 3 3] (w9.alloc (.cells #[.string ⟨#[40,45]⟩,.string ⟨(T h a i.data.toList).toArray⟩,.string ⟨#[41]⟩] 9)) fun e w'=>e = .returned (.string ⟨(T (h+1) t i.data.toList).toArray⟩)∧Below w9.heap.size w9 w'):=Lib.hid fun w9=>by
  have:=join_at w9 [⟨#[40,45]⟩,⟨(T h a i.data.toList).toArray⟩,⟨#[41]⟩] (by simp) (by rw [HFL.out];exact hT)
  rw [HFL.out] at this
  exact this
 rw [hop]
 have hopw : ∀ v:Value,Value.int .i64 t.op=v→v = .int .i64 20:=fun v e=>by rw [← e,hop]
 clear hopw
 obtain ⟨w0,hw0⟩ : ∃ w0,w.alloc (.cells #[.int .i64 20,.string t.s,.int .i64 t.n,.slice A t.l.length c,.int .i64 t.line] 29)=w0:=⟨_,rfl⟩
 obtain ⟨w1,hw1⟩ : ∃ w1,w0.alloc (.cells #[.string i] 9)=w1:=⟨_,rfl⟩
 have bx0:Blk5 w0 w.heap.size 20 t.s t.n (.slice A t.l.length c) t.line:=by rw [← hw0];exact blk5_new _ _ _ _ _ _
 have hb0:Below w.heap.size w w0:=by rw [← hw0];exact (Below.refl _ _).alloc (Nat.le_refl _) _
 have hb1:Below w0.heap.size w0 w1:=by rw [← hw1];exact (Below.refl _ _).alloc (Nat.le_refl _) _
 have hm:w1.cell? ⟨w0.heap.size,0,none⟩=some (.string i):=by rw [← hw1];exact cell_of_row _ _ 0 #[.string i] 9 (0,0) (heap_alloc_new _ _)
 have bx:=bx0.keep hb1
 have HB:=Lib.hid (hb0.trans (hb1.mono hb0.size))
 have hhd:Held w1 w.heap.size w0.heap.size t A c i:=⟨by rw [hop];exact bx,hm⟩
 have HH:=Lib.hid hhd
 have HL:=Lib.hid (hl.below HB.out)
 have HK:=Lib.hid (hk.below HB.out)
 have HAa:=Lib.hid (fun (w9:World) (hb9:Below w1.heap.size w1 w9)=>at_calls w9 w.heap.size w0.heap.size t A c i (HH.out.below hb9) (HL.out.below hb9) d (HK.out.below hb9) 0 a (by rw [hta];rfl) h hca)
 obtain ⟨c0,c1,c2,c3,c4⟩:=bx
 clear bx0 hb0 hb1 hl hk hhd hT hop hta HFL hca
 generalize T h a i.data.toList=Xa at HJ HAa
 go_enter Tryz.func39,Tryz.ntmps39
 go_wp2_with (first
  | (go_at_call 70;refine (HAa.out w1 (Below.refl _ _)).mono ?_;rintro e v0 ⟨rfl,hb⟩;have HB_v0:=Lib.hid (hb);clear hb)
  | (go_at_call 67;refine (HJ.out _).mono ?_;rintro e wz ⟨rfl,hb⟩;have HBZ:=Lib.hid (HB_v0.out.trans (hb.mono HB_v0.out.size));clear hb))
 go_ret
 exact ⟨rfl,HB.out.trans (HBZ.out.mono HB.out.size)⟩
end
end Go.Proofs.YtjjdmiaonkailaaGreatDoor
