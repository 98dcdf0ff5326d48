/- Walks and plain laws, packed: RdU. -/
import Derived.Test.YtjjdmiaonkailaaGreatDoorK24
namespace Go.Proofs.YtjjdmiaonkailaaGreatDoor
section
open Go.RowKit Go.Sort
section
variable {w W:World} {rb:Nat} {tx:ByteArray} {st:Obj} {acc:List Tree}
theorem ArgJ.keepAll {W':World} (h:ArgJ w rb tx st acc W) (hb : ∀ k,k<W.heap.size→W'.heap[k]? = W.heap[k]?) (hsz:W.heap.size≤W'.heap.size) (ht:TurnR rb w W'):ArgJ w rb tx st acc W':=by
 have hs:=h.size
 obtain ⟨A,c,h1,h2,h3⟩:=h.out
 exact ⟨(hb _ (by omega)).trans h.rc,(hb _ (by omega)).trans h.dd,h.bx0.keep (hb _ (by omega)),⟨A,c,h1.keep (hb _ (by omega)),h2.turn (fun k _ hs=>hb k hs) hsz,h3⟩,h.bx1.keep (hb _ (by omega)),h.bx2.keep (hb _ (by omega)),ht⟩
theorem ArgJ.dr (h:ArgJ w rb tx st acc W):ArgJ w rb tx st acc W.drew:=h.keepAll (fun _ _=>rfl) (Nat.le_refl _) (TurnR.dr h.tn)
theorem ArgJ.al (h:ArgJ w rb tx st acc W) (o:Obj):ArgJ w rb tx st acc (W.alloc o):=h.keepAll (fun k hk=>(Keep.alloc 0 W o).blk k (Nat.zero_le _) hk) (Keep.alloc 0 W o).size (TurnR.al h.tn o)
end
theorem TurnR.putD {rb:Nat} {w W:World} (h:TurnR rb w W):TurnR rb w (W.putObj (w.heap.size+1+1+1+1) (.deferred none)):=Turn.trans h (turnPut W _ _) (fun k hk e=>absurd e (by omega))
theorem RowT.putD {w W:World} {acc:List Tree} {v:Value} (h:RowT (w.heap.size+1+1+1+1+1+1) W acc v):RowT (w.heap.size+1+1+1+1+1+1) (W.putObj (w.heap.size+1+1+1+1) (.deferred none)) acc v :=
 h.turn (fun k hk hs=>(turnPut W (w.heap.size+1+1+1+1) (.deferred none)).block k hs (by omega)) (turnPut W _ _).size
theorem endJ {rb last:Nat} {w W9:World} {tx:ByteArray} {Rc:LoopState→Option Code→Obj} {a:List Tree} {r:List Tl} (hlt:rb<w.heap.size) (hj:ArgJ w rb tx (Rc .busy none) a W9) (hs:St W9 rb last r):W9.heap[w.heap.size+1+1+1+1+1]? = some (Rc .busy none) ∧
  ∃ a' q,(Except.ok (a,r):Except (Int × Int) (List Tree × List Tl)) = .ok (a',q)∧ArgJ w rb tx (Rc .ready none) a' (W9.putObj (w.heap.size+1+1+1+1+1) (Rc .ready none))∧St (W9.putObj (w.heap.size+1+1+1+1+1) (Rc .ready none)) rb last q :=
 ⟨hj.rc,a,r,rfl,hj.turned _,hs.putO (by omega) _⟩
def plainOps (l:List Oper):Bool:=l.all fun o=>match o.op with | .defer _=>false | _=>true
theorem ops_plain {ops:Array Oper} (h:plainOps ops.toList=true) : ∀ (i:Nat) (o:Oper),ops[i]? = some o → ∀ c,o.op≠Op.defer c:=by
 intro i o ho c e
 have hm:o ∈ ops.toList:=by
  rw [← Array.getElem?_toList] at ho
  exact List.mem_of_getElem? ho
 have:=List.all_eq_true.1 h o hm
 rw [e] at this
 cases this
set_option maxRecDepth 100000 in
set_option maxHeartbeats 4000000 in
theorem args_calls {rb last f:Nat} (R:AllR rb last f):ArgsC rb last f:=by
 intro w l y h hy
 have hlt:=h.lt
 have HS0:=Lib.hid h
 have HYY:=Lib.hid hy
 clear h hy
 refine calls_of_at Tryz.func172 rfl ?_
 simp only [Tryz.ntmps172,List.size_toArray,List.length_cons,List.length_nil,Nat.reduceAdd,Nat.reduceSub,Array.replicate_succ,Array.replicate_zero,List.push_toArray,List.append_toArray,List.nil_append,List.cons_append]
 refine wpAt_seq (wpAt_of_wp ?_)
 go_wp2
 refine wpAt_seq (wpAt_of_wp ?_)
 go_wp2
 refine wpAt_seq (wpAt_seq (wpAt_of_wp ?_))
 go_wp2_with fail
 refine (listed_calls _ rb ⟨#[41]⟩).mono ?_
 rintro e w' ⟨rfl,rfl⟩
 go_wp2
 refine wpAt_block (range_at (gf:=202) (lb:=#[.pointer (some ⟨w.heap.size+1+1,0,none⟩),.pointer (some ⟨w.heap.size+1+1+1,0,none⟩)]) (by simp [Act.eval]) (enters_of Tryz.func202 (by kernel_rfl) rfl) ?_)
 intro Rc hR
 simp only [World.size_alloc] at hR ⊢
 have hal : ∀ k,((((((w.alloc (.cells #[rdP rb] 53)).alloc (.cells #[.slice none 0 0] 27)).alloc (.cells #[rdP rb] 53)).alloc (.cells #[.string ⟨#[41]⟩] 9)).alloc (.deferred (some []))).alloc (Rc .ready none)).heap[k]? =
   if k=w.heap.size then some (.cells #[rdP rb] 53) else if k=w.heap.size+1 then some (.cells #[.slice none 0 0] 27) else if k=w.heap.size+1+1 then some (.cells #[rdP rb] 53) else if k=w.heap.size+1+1+1 then some (.cells #[.string ⟨#[41]⟩] 9) else if k=w.heap.size+1+1+1+1 then some (.deferred (some [])) else if k=w.heap.size+1+1+1+1+1 then some (Rc .ready none) else w.heap[k]? := fun k=>alloc6R w _ _ _ _ _ _ k
 have HJ0:Hid (ArgJ w rb ⟨#[41]⟩ (Rc .ready none) [] ((((((w.alloc (.cells #[rdP rb] 53)).alloc (.cells #[.slice none 0 0] 27)).alloc (.cells #[rdP rb] 53)).alloc (.cells #[.string ⟨#[41]⟩] 9)).alloc (.deferred (some []))).alloc (Rc .ready none))):=Lib.hid (by
  refine ⟨?_,?_,?_,⟨none,0,?_,RowT.nil,fun _=>⟨rfl,rfl⟩⟩,?_,?_,?_⟩
  ·rw [hal,if_neg (by omega),if_neg (by omega),if_neg (by omega),if_neg (by omega),if_neg (by omega),if_pos rfl]
  ·rw [hal,if_neg (by omega),if_neg (by omega),if_neg (by omega),if_neg (by omega),if_pos rfl]
  ·show _=_
   rw [hal,if_pos rfl]
  ·show _=_
   rw [hal,if_neg (by omega),if_pos rfl]
   rfl
  ·show _=_
   rw [hal,if_neg (by omega),if_neg (by omega),if_pos rfl]
  ·show _=_
   rw [hal,if_neg (by omega),if_neg (by omega),if_neg (by omega),if_pos rfl]
  ·exact TurnR.al (TurnR.al (TurnR.al (TurnR.al (TurnR.al (alloc_turn w rb _) _) _) _) _) _)
 have HS1:=Lib.hid ((((((HS0.out.alloc (.cells #[rdP rb] 53)).alloc (.cells #[.slice none 0 0] 27)).alloc (.cells #[rdP rb] 53)).alloc (.cells #[.string ⟨#[41]⟩] 9)).alloc (.deferred (some []))).alloc (Rc .ready none))
 clear hal
 have hyy:(if atF [[41]] l then Rd.ok [] l.tail else argRec last (f+1) [] l)=some y:=by
  have h1:=le_argsF (leFns last f) l _ HYY.out
  exact h1
 refine (listed1_in 4 (w.heap.size+1+1+1+1+1) (w.heap.size+1+1) (w.heap.size+1+1+1) ⟨#[41]⟩ (fun acc W=>ArgJ w rb ⟨#[41]⟩ (Rc .ready none) acc W) (fun W=>TurnR rb w W∧W.heap[w.heap.size+1+1+1+1]? = some (.deferred (some []))∧w.heap.size+1+1+1+1<W.heap.size) (argOne last) (argRec last)
  (arg_rec last) (fun _ _=>rfl) (arg_len last) (fun a W W' hj t=>hj.tr hlt t) (fun a W hj=>hj.cells hlt) (fun a W W' hj t=>⟨TurnR.trans hj.tn t,(hj.tr hlt t).dd,by have:=(hj.tr hlt t).size;omega⟩) f ?_ _ l HJ0.out HS1.out y hyy).mono ?_
 ·clear hyy HJ0 HS1 HYY HS0
  intro i acc g l' W y1 hg hacc hj hs hone
  have HJ:=Lib.hid hj
  have HS:=Lib.hid hs
  have HONE:=Lib.hid hone
  refine (yield_ofP hR (fun W' => ∃ a q,y1 = .ok (a,q)∧ArgJ w rb ⟨#[41]⟩ (Rc .ready none) a W'∧St W' rb last q) (fun _ _=>False) (fun c W' => ∃ e,y1 = .error e∧c=pan e.1 e.2∧TurnR rb w W'∧W'.heap[w.heap.size+1+1+1+1]? = some (.deferred (some []))∧w.heap.size+1+1+1+1<W'.heap.size) trivial ⟨_,Tryz.func172⟩ hj.rc rfl ?_).mono ?_
  ·clear hR hj hs hone
   gi_wp2
   refine ⟨HJ.out.rc,?_⟩
   have hj1:=HJ.out.turned (Rc .busy none)
   have hs1:=HS.out.putO (b:=w.heap.size+1+1+1+1+1) (by omega) (Rc .busy none)
   obtain ⟨W1,hW1⟩ : ∃ W1,W.putObj (w.heap.size+1+1+1+1+1) (Rc .busy none)=W1:=⟨_,rfl⟩
   rw [hW1] at hj1 hs1 ⊢
   clear hW1 HJ HS
   obtain ⟨A1,c1,hbo1,hr1,-⟩:=hj1.out
   have hsz1:=hj1.size
   have b0:=hbo1.cell 0
   have f0:=hbo1.frozen 0
   have b1:=hj1.bx0.cell 0
   simp only [List.getElem?_toArray,List.getElem?_cons_zero] at b0 b1
   have HBO1:=Lib.hid hbo1
   have HBX1:=Lib.hid hj1.bx0
   have HR1:=Lib.hid hr1
   have HOWN:Hid (∀ k,(Value.slice A1 acc.length c1).ownBlock=some k→(w.heap.size+1+1+1+1+1+1)≤k∧k<W1.heap.size):=Lib.hid hr1.own
   have HJ1d:=Lib.hid (hj1.dr)
   have HJ1z:=Lib.hid ((hj1.al (.cells #[.int .i64 0,.string ⟨#[]⟩,.int .i64 0,.slice none 0 0,.int .i64 0] 29)).dr)
   have HS1d:=Lib.hid hs1.dr
   have HS1z:=Lib.hid (hs1.alloc (.cells #[.int .i64 0,.string ⟨#[]⟩,.int .i64 0,.slice none 0 0,.int .i64 0] 29)).dr
   have HT1d:=Lib.hid (TurnR.dr hj1.tn)
   have HT1z:=Lib.hid (TurnR.dr (TurnR.al hj1.tn (.cells #[.int .i64 0,.string ⟨#[]⟩,.int .i64 0,.slice none 0 0,.int .i64 0] 29)))
   clear hbo1 hr1 hj1 hs1
   have LF:=Lib.hid (leFns_le last hg)
   have hix:(acc.length:Int)<(acc.length:Int)+1:=by omega
   have hlo0:w.heap.size<W1.heap.size:=by omega
   have hlo1:w.heap.size+1<W1.heap.size:=by omega
   have hmo:Tryz.prog.follows .mixedOrders=true:=by kernel_rfl
   gi_wp2
   rcases bind_some (show ((fns last g).expr l').bind (fun x r=>Rd.ok (acc++[x]) r)=some y1 from HONE.out) with ⟨⟨ce,ln⟩,h1,hy1⟩ | ⟨x,r,h1,h2⟩
   ·have HM:=Lib.hid h1
    subst hy1
    clear h1 HONE
    have HD1d:Hid (∀ w',TurnR rb W1.drew w'→w'.heap[w.heap.size+1+1+1+1]? = some (.deferred (some []))∧w.heap.size+1+1+1+1<w'.heap.size):=Lib.hid fun w' t=>⟨(HJ1d.out.tr hlt t).dd,by have:=(HJ1d.out.tr hlt t).size;omega⟩
    have HD1z:Hid (∀ w',TurnR rb (W1.alloc (.cells #[.int .i64 0,.string ⟨#[]⟩,.int .i64 0,.slice none 0 0,.int .i64 0] 29)).drew w'→w'.heap[w.heap.size+1+1+1+1]? = some (.deferred (some []))∧w.heap.size+1+1+1+1<w'.heap.size):=Lib.hid fun w' t=>⟨(HJ1z.out.tr hlt t).dd,by have:=(HJ1z.out.tr hlt t).size;omega⟩
    refine region_round hmo (ops_plain (by kernel_rfl)) ?_
    refine anyS_go (rs:=[0,1,4]) (by kernel_rfl) (by simp) ?_
    refine allS_consK rfl (fun K hK => ?_) ?_
    ·skip
     go_simp
     refine hK _ _ ?_
     clear hK K
     refine anyS_go (rs:=[1,3,4]) (by kernel_rfl) (by simp) ?_
     refine allS_consK rfl (fun K hK => ?_) ?_
     ·skip
      go_simp
      refine hK _ _ ?_
      clear hK K
      refine anyS_go (rs:=[2,3,4]) (by kernel_rfl) (by simp) ?_
      refine allS_consK rfl (fun K hK => ?_) ?_
      ·skip
       go_simp
       refine (R.expr _ _ _ HS1d.out (LF.out.expr _ _ HM.out)).mono ?_
       rintro e w7 ⟨rfl,ht7⟩
       have ht7w:=TurnR.trans HT1d.out ht7
       have hdd7:=HD1d.out _ ht7
       exact ⟨rfl,_,rfl,rfl,ht7w,hdd7.1,hdd7.2⟩
      refine allS_consK rfl (fun K hK => ?_) ?_
      ·skip
       go_simp
       refine hK _ _ ?_
       clear hK K
       refine anyS_go (rs:=[2,4]) (by kernel_rfl) (by simp) ?_
       refine allS_consK rfl (fun K hK => ?_) ?_
       ·skip
        go_simp
        refine (R.expr _ _ _ HS1d.out (LF.out.expr _ _ HM.out)).mono ?_
        rintro e w7 ⟨rfl,ht7⟩
        have ht7w:=TurnR.trans HT1d.out ht7
        have hdd7:=HD1d.out _ ht7
        exact ⟨rfl,_,rfl,rfl,ht7w,hdd7.1,hdd7.2⟩
       refine allS_consK rfl (fun K hK => ?_) ?_
       ·skip
        go_simp
        refine hK _ _ ?_
        clear hK K
        refine anyS_go (rs:=[2]) (by kernel_rfl) (by simp) ?_
        refine allS_consK rfl (fun K hK => ?_) ?_
        ·skip
         go_simp
         refine (R.expr _ _ _ HS1z.out (LF.out.expr _ _ HM.out)).mono ?_
         rintro e w7 ⟨rfl,ht7⟩
         have ht7w:=TurnR.trans HT1z.out ht7
         have hdd7:=HD1z.out _ ht7
         exact ⟨rfl,_,rfl,rfl,ht7w,hdd7.1,hdd7.2⟩
        exact allS_nil
       exact allS_nil
      refine allS_consK rfl (fun K hK => ?_) ?_
      ·skip
       go_simp
       refine hK _ _ ?_
       clear hK K
       refine anyS_go (rs:=[2,3]) (by kernel_rfl) (by simp) ?_
       refine allS_consK rfl (fun K hK => ?_) ?_
       ·skip
        go_simp
        refine (R.expr _ _ _ HS1z.out (LF.out.expr _ _ HM.out)).mono ?_
        rintro e w7 ⟨rfl,ht7⟩
        have ht7w:=TurnR.trans HT1z.out ht7
        have hdd7:=HD1z.out _ ht7
        exact ⟨rfl,_,rfl,rfl,ht7w,hdd7.1,hdd7.2⟩
       refine allS_consK rfl (fun K hK => ?_) ?_
       ·skip
        go_simp
        refine hK _ _ ?_
        clear hK K
        refine anyS_go (rs:=[2]) (by kernel_rfl) (by simp) ?_
        refine allS_consK rfl (fun K hK => ?_) ?_
        ·skip
         go_simp
         refine (R.expr _ _ _ HS1z.out (LF.out.expr _ _ HM.out)).mono ?_
         rintro e w7 ⟨rfl,ht7⟩
         have ht7w:=TurnR.trans HT1z.out ht7
         have hdd7:=HD1z.out _ ht7
         exact ⟨rfl,_,rfl,rfl,ht7w,hdd7.1,hdd7.2⟩
        exact allS_nil
       exact allS_nil
      exact allS_nil
     refine allS_consK rfl (fun K hK => ?_) ?_
     ·skip
      go_simp
      refine hK _ _ ?_
      clear hK K
      refine anyS_go (rs:=[1,4]) (by kernel_rfl) (by simp) ?_
      refine allS_consK rfl (fun K hK => ?_) ?_
      ·skip
       go_simp
       refine hK _ _ ?_
       clear hK K
       refine anyS_go (rs:=[2,4]) (by kernel_rfl) (by simp) ?_
       refine allS_consK rfl (fun K hK => ?_) ?_
       ·skip
        go_simp
        refine (R.expr _ _ _ HS1d.out (LF.out.expr _ _ HM.out)).mono ?_
        rintro e w7 ⟨rfl,ht7⟩
        have ht7w:=TurnR.trans HT1d.out ht7
        have hdd7:=HD1d.out _ ht7
        exact ⟨rfl,_,rfl,rfl,ht7w,hdd7.1,hdd7.2⟩
       refine allS_consK rfl (fun K hK => ?_) ?_
       ·skip
        go_simp
        refine hK _ _ ?_
        clear hK K
        refine anyS_go (rs:=[2]) (by kernel_rfl) (by simp) ?_
        refine allS_consK rfl (fun K hK => ?_) ?_
        ·skip
         go_simp
         refine (R.expr _ _ _ HS1z.out (LF.out.expr _ _ HM.out)).mono ?_
         rintro e w7 ⟨rfl,ht7⟩
         have ht7w:=TurnR.trans HT1z.out ht7
         have hdd7:=HD1z.out _ ht7
         exact ⟨rfl,_,rfl,rfl,ht7w,hdd7.1,hdd7.2⟩
        exact allS_nil
       exact allS_nil
      refine allS_consK rfl (fun K hK => ?_) ?_
      ·skip
       go_simp
       refine hK _ _ ?_
       clear hK K
       refine anyS_go (rs:=[1]) (by kernel_rfl) (by simp) ?_
       refine allS_consK rfl (fun K hK => ?_) ?_
       ·skip
        go_simp
        refine hK _ _ ?_
        clear hK K
        refine anyS_go (rs:=[2]) (by kernel_rfl) (by simp) ?_
        refine allS_consK rfl (fun K hK => ?_) ?_
        ·skip
         go_simp
         refine (R.expr _ _ _ HS1z.out (LF.out.expr _ _ HM.out)).mono ?_
         rintro e w7 ⟨rfl,ht7⟩
         have ht7w:=TurnR.trans HT1z.out ht7
         have hdd7:=HD1z.out _ ht7
         exact ⟨rfl,_,rfl,rfl,ht7w,hdd7.1,hdd7.2⟩
        exact allS_nil
       exact allS_nil
      exact allS_nil
     refine allS_consK rfl (fun K hK => ?_) ?_
     ·skip
      go_simp
      refine hK _ _ ?_
      clear hK K
      refine anyS_go (rs:=[1,3]) (by kernel_rfl) (by simp) ?_
      refine allS_consK rfl (fun K hK => ?_) ?_
      ·skip
       go_simp
       refine hK _ _ ?_
       clear hK K
       refine anyS_go (rs:=[2,3]) (by kernel_rfl) (by simp) ?_
       refine allS_consK rfl (fun K hK => ?_) ?_
       ·skip
        go_simp
        refine (R.expr _ _ _ HS1z.out (LF.out.expr _ _ HM.out)).mono ?_
        rintro e w7 ⟨rfl,ht7⟩
        have ht7w:=TurnR.trans HT1z.out ht7
        have hdd7:=HD1z.out _ ht7
        exact ⟨rfl,_,rfl,rfl,ht7w,hdd7.1,hdd7.2⟩
       refine allS_consK rfl (fun K hK => ?_) ?_
       ·skip
        go_simp
        refine hK _ _ ?_
        clear hK K
        refine anyS_go (rs:=[2]) (by kernel_rfl) (by simp) ?_
        refine allS_consK rfl (fun K hK => ?_) ?_
        ·skip
         go_simp
         refine (R.expr _ _ _ HS1z.out (LF.out.expr _ _ HM.out)).mono ?_
         rintro e w7 ⟨rfl,ht7⟩
         have ht7w:=TurnR.trans HT1z.out ht7
         have hdd7:=HD1z.out _ ht7
         exact ⟨rfl,_,rfl,rfl,ht7w,hdd7.1,hdd7.2⟩
        exact allS_nil
       exact allS_nil
      refine allS_consK rfl (fun K hK => ?_) ?_
      ·skip
       go_simp
       refine hK _ _ ?_
       clear hK K
       refine anyS_go (rs:=[1]) (by kernel_rfl) (by simp) ?_
       refine allS_consK rfl (fun K hK => ?_) ?_
       ·skip
        go_simp
        refine hK _ _ ?_
        clear hK K
        refine anyS_go (rs:=[2]) (by kernel_rfl) (by simp) ?_
        refine allS_consK rfl (fun K hK => ?_) ?_
        ·skip
         go_simp
         refine (R.expr _ _ _ HS1z.out (LF.out.expr _ _ HM.out)).mono ?_
         rintro e w7 ⟨rfl,ht7⟩
         have ht7w:=TurnR.trans HT1z.out ht7
         have hdd7:=HD1z.out _ ht7
         exact ⟨rfl,_,rfl,rfl,ht7w,hdd7.1,hdd7.2⟩
        exact allS_nil
       exact allS_nil
      exact allS_nil
     exact allS_nil
    refine allS_consK rfl (fun K hK => ?_) ?_
    ·skip
     go_simp
     refine hK _ _ ?_
     clear hK K
     refine anyS_go (rs:=[0,2,4]) (by kernel_rfl) (by simp) ?_
     refine allS_consK rfl (fun K hK => ?_) ?_
     ·skip
      go_simp
      refine hK _ _ ?_
      clear hK K
      refine anyS_go (rs:=[2,3,4]) (by kernel_rfl) (by simp) ?_
      refine allS_consK rfl (fun K hK => ?_) ?_
      ·skip
       go_simp
       refine (R.expr _ _ _ HS1d.out (LF.out.expr _ _ HM.out)).mono ?_
       rintro e w7 ⟨rfl,ht7⟩
       have ht7w:=TurnR.trans HT1d.out ht7
       have hdd7:=HD1d.out _ ht7
       exact ⟨rfl,_,rfl,rfl,ht7w,hdd7.1,hdd7.2⟩
      refine allS_consK rfl (fun K hK => ?_) ?_
      ·skip
       go_simp
       refine hK _ _ ?_
       clear hK K
       refine anyS_go (rs:=[2,4]) (by kernel_rfl) (by simp) ?_
       refine allS_consK rfl (fun K hK => ?_) ?_
       ·skip
        go_simp
        refine (R.expr _ _ _ HS1d.out (LF.out.expr _ _ HM.out)).mono ?_
        rintro e w7 ⟨rfl,ht7⟩
        have ht7w:=TurnR.trans HT1d.out ht7
        have hdd7:=HD1d.out _ ht7
        exact ⟨rfl,_,rfl,rfl,ht7w,hdd7.1,hdd7.2⟩
       refine allS_consK rfl (fun K hK => ?_) ?_
       ·skip
        go_simp
        refine hK _ _ ?_
        clear hK K
        refine anyS_go (rs:=[2]) (by kernel_rfl) (by simp) ?_
        refine allS_consK rfl (fun K hK => ?_) ?_
        ·skip
         go_simp
         refine (R.expr _ _ _ HS1z.out (LF.out.expr _ _ HM.out)).mono ?_
         rintro e w7 ⟨rfl,ht7⟩
         have ht7w:=TurnR.trans HT1z.out ht7
         have hdd7:=HD1z.out _ ht7
         exact ⟨rfl,_,rfl,rfl,ht7w,hdd7.1,hdd7.2⟩
        exact allS_nil
       exact allS_nil
      refine allS_consK rfl (fun K hK => ?_) ?_
      ·skip
       go_simp
       refine hK _ _ ?_
       clear hK K
       refine anyS_go (rs:=[2,3]) (by kernel_rfl) (by simp) ?_
       refine allS_consK rfl (fun K hK => ?_) ?_
       ·skip
        go_simp
        refine (R.expr _ _ _ HS1z.out (LF.out.expr _ _ HM.out)).mono ?_
        rintro e w7 ⟨rfl,ht7⟩
        have ht7w:=TurnR.trans HT1z.out ht7
        have hdd7:=HD1z.out _ ht7
        exact ⟨rfl,_,rfl,rfl,ht7w,hdd7.1,hdd7.2⟩
       refine allS_consK rfl (fun K hK => ?_) ?_
       ·skip
        go_simp
        refine hK _ _ ?_
        clear hK K
        refine anyS_go (rs:=[2]) (by kernel_rfl) (by simp) ?_
        refine allS_consK rfl (fun K hK => ?_) ?_
        ·skip
         go_simp
         refine (R.expr _ _ _ HS1z.out (LF.out.expr _ _ HM.out)).mono ?_
         rintro e w7 ⟨rfl,ht7⟩
         have ht7w:=TurnR.trans HT1z.out ht7
         have hdd7:=HD1z.out _ ht7
         exact ⟨rfl,_,rfl,rfl,ht7w,hdd7.1,hdd7.2⟩
        exact allS_nil
       exact allS_nil
      exact allS_nil
     refine allS_consK rfl (fun K hK => ?_) ?_
     ·skip
      go_simp
      refine (R.expr _ _ _ HS1d.out (LF.out.expr _ _ HM.out)).mono ?_
      rintro e w7 ⟨rfl,ht7⟩
      have ht7w:=TurnR.trans HT1d.out ht7
      have hdd7:=HD1d.out _ ht7
      exact ⟨rfl,_,rfl,rfl,ht7w,hdd7.1,hdd7.2⟩
     refine allS_consK rfl (fun K hK => ?_) ?_
     ·skip
      go_simp
      refine hK _ _ ?_
      clear hK K
      refine anyS_go (rs:=[0,2]) (by kernel_rfl) (by simp) ?_
      refine allS_consK rfl (fun K hK => ?_) ?_
      ·skip
       go_simp
       refine hK _ _ ?_
       clear hK K
       refine anyS_go (rs:=[2,3]) (by kernel_rfl) (by simp) ?_
       refine allS_consK rfl (fun K hK => ?_) ?_
       ·skip
        go_simp
        refine (R.expr _ _ _ HS1z.out (LF.out.expr _ _ HM.out)).mono ?_
        rintro e w7 ⟨rfl,ht7⟩
        have ht7w:=TurnR.trans HT1z.out ht7
        have hdd7:=HD1z.out _ ht7
        exact ⟨rfl,_,rfl,rfl,ht7w,hdd7.1,hdd7.2⟩
       refine allS_consK rfl (fun K hK => ?_) ?_
       ·skip
        go_simp
        refine hK _ _ ?_
        clear hK K
        refine anyS_go (rs:=[2]) (by kernel_rfl) (by simp) ?_
        refine allS_consK rfl (fun K hK => ?_) ?_
        ·skip
         go_simp
         refine (R.expr _ _ _ HS1z.out (LF.out.expr _ _ HM.out)).mono ?_
         rintro e w7 ⟨rfl,ht7⟩
         have ht7w:=TurnR.trans HT1z.out ht7
         have hdd7:=HD1z.out _ ht7
         exact ⟨rfl,_,rfl,rfl,ht7w,hdd7.1,hdd7.2⟩
        exact allS_nil
       exact allS_nil
      refine allS_consK rfl (fun K hK => ?_) ?_
      ·skip
       go_simp
       refine (R.expr _ _ _ HS1z.out (LF.out.expr _ _ HM.out)).mono ?_
       rintro e w7 ⟨rfl,ht7⟩
       have ht7w:=TurnR.trans HT1z.out ht7
       have hdd7:=HD1z.out _ ht7
       exact ⟨rfl,_,rfl,rfl,ht7w,hdd7.1,hdd7.2⟩
      exact allS_nil
     exact allS_nil
    refine allS_consK rfl (fun K hK => ?_) ?_
    ·skip
     go_simp
     refine hK _ _ ?_
     clear hK K
     refine anyS_go (rs:=[0,1]) (by kernel_rfl) (by simp) ?_
     refine allS_consK rfl (fun K hK => ?_) ?_
     ·skip
      go_simp
      refine hK _ _ ?_
      clear hK K
      refine anyS_go (rs:=[1,3]) (by kernel_rfl) (by simp) ?_
      refine allS_consK rfl (fun K hK => ?_) ?_
      ·skip
       go_simp
       refine hK _ _ ?_
       clear hK K
       refine anyS_go (rs:=[2,3]) (by kernel_rfl) (by simp) ?_
       refine allS_consK rfl (fun K hK => ?_) ?_
       ·skip
        go_simp
        refine (R.expr _ _ _ HS1z.out (LF.out.expr _ _ HM.out)).mono ?_
        rintro e w7 ⟨rfl,ht7⟩
        have ht7w:=TurnR.trans HT1z.out ht7
        have hdd7:=HD1z.out _ ht7
        exact ⟨rfl,_,rfl,rfl,ht7w,hdd7.1,hdd7.2⟩
       refine allS_consK rfl (fun K hK => ?_) ?_
       ·skip
        go_simp
        refine hK _ _ ?_
        clear hK K
        refine anyS_go (rs:=[2]) (by kernel_rfl) (by simp) ?_
        refine allS_consK rfl (fun K hK => ?_) ?_
        ·skip
         go_simp
         refine (R.expr _ _ _ HS1z.out (LF.out.expr _ _ HM.out)).mono ?_
         rintro e w7 ⟨rfl,ht7⟩
         have ht7w:=TurnR.trans HT1z.out ht7
         have hdd7:=HD1z.out _ ht7
         exact ⟨rfl,_,rfl,rfl,ht7w,hdd7.1,hdd7.2⟩
        exact allS_nil
       exact allS_nil
      refine allS_consK rfl (fun K hK => ?_) ?_
      ·skip
       go_simp
       refine hK _ _ ?_
       clear hK K
       refine anyS_go (rs:=[1]) (by kernel_rfl) (by simp) ?_
       refine allS_consK rfl (fun K hK => ?_) ?_
       ·skip
        go_simp
        refine hK _ _ ?_
        clear hK K
        refine anyS_go (rs:=[2]) (by kernel_rfl) (by simp) ?_
        refine allS_consK rfl (fun K hK => ?_) ?_
        ·skip
         go_simp
         refine (R.expr _ _ _ HS1z.out (LF.out.expr _ _ HM.out)).mono ?_
         rintro e w7 ⟨rfl,ht7⟩
         have ht7w:=TurnR.trans HT1z.out ht7
         have hdd7:=HD1z.out _ ht7
         exact ⟨rfl,_,rfl,rfl,ht7w,hdd7.1,hdd7.2⟩
        exact allS_nil
       exact allS_nil
      exact allS_nil
     refine allS_consK rfl (fun K hK => ?_) ?_
     ·skip
      go_simp
      refine hK _ _ ?_
      clear hK K
      refine anyS_go (rs:=[0,2]) (by kernel_rfl) (by simp) ?_
      refine allS_consK rfl (fun K hK => ?_) ?_
      ·skip
       go_simp
       refine hK _ _ ?_
       clear hK K
       refine anyS_go (rs:=[2,3]) (by kernel_rfl) (by simp) ?_
       refine allS_consK rfl (fun K hK => ?_) ?_
       ·skip
        go_simp
        refine (R.expr _ _ _ HS1z.out (LF.out.expr _ _ HM.out)).mono ?_
        rintro e w7 ⟨rfl,ht7⟩
        have ht7w:=TurnR.trans HT1z.out ht7
        have hdd7:=HD1z.out _ ht7
        exact ⟨rfl,_,rfl,rfl,ht7w,hdd7.1,hdd7.2⟩
       refine allS_consK rfl (fun K hK => ?_) ?_
       ·skip
        go_simp
        refine hK _ _ ?_
        clear hK K
        refine anyS_go (rs:=[2]) (by kernel_rfl) (by simp) ?_
        refine allS_consK rfl (fun K hK => ?_) ?_
        ·skip
         go_simp
         refine (R.expr _ _ _ HS1z.out (LF.out.expr _ _ HM.out)).mono ?_
         rintro e w7 ⟨rfl,ht7⟩
         have ht7w:=TurnR.trans HT1z.out ht7
         have hdd7:=HD1z.out _ ht7
         exact ⟨rfl,_,rfl,rfl,ht7w,hdd7.1,hdd7.2⟩
        exact allS_nil
       exact allS_nil
      refine allS_consK rfl (fun K hK => ?_) ?_
      ·skip
       go_simp
       refine (R.expr _ _ _ HS1z.out (LF.out.expr _ _ HM.out)).mono ?_
       rintro e w7 ⟨rfl,ht7⟩
       have ht7w:=TurnR.trans HT1z.out ht7
       have hdd7:=HD1z.out _ ht7
       exact ⟨rfl,_,rfl,rfl,ht7w,hdd7.1,hdd7.2⟩
      exact allS_nil
     exact allS_nil
    exact allS_nil
   ·have HM:=Lib.hid h1
    have hy1:=some_ok h2
    subst hy1
    clear h1 h2 HONE
    refine region_round2 hmo (ops_plain (by kernel_rfl)) (f5:=4) #[true,true,true,true,true,false,false,false,false] (fun a5 w7 => ∃ zb A7 c7 d7,a5={ tmps:=#[rdP rb,.pointer (some ⟨w.heap.size,0,none⟩),.slice none 0 0,.pointer (some ⟨w.heap.size+1,0,none⟩),rdP rb,.func (.func 202) #[] #[.pointer (some ⟨w.heap.size+1+1,0,none⟩),.pointer (some ⟨w.heap.size+1+1+1,0,none⟩)],.int .i64 i,.slice A1 acc.length c1,rdP rb,.agg #[.int .i64 x.op,.string x.s,.int .i64 x.n,.slice A7 x.l.length c7,.int .i64 x.line],.int .i64 acc.length,.slice (some ⟨zb,0,none⟩) 1 1,undef,undef,undef],defers:=[] }∧ArgJ w rb ⟨#[41]⟩ (Rc .busy none) acc w7∧St w7 rb last r∧RowT (w.heap.size+1+1+1+1+1+1) w7 acc (.slice A1 acc.length c1)∧TrU W1.heap.size w7 d7 x.l (.slice A7 x.l.length c7)∧Blk w7 zb 29 #[.int .i64 0,.string ⟨#[]⟩,.int .i64 0,.slice none 0 0,.int .i64 0]∧W1.heap.size≤w7.heap.size∧x.ok) ?_ ?_
    ·rintro a5 w7 ⟨zb,A7,c7,d7,rfl,hj7,hs7,hr7,htx7,hzb7,hwz7,hok7⟩
     have HJ7:=Lib.hid hj7
     have HS7:=Lib.hid hs7
     have HR7:=Lib.hid hr7
     have HTX7:=Lib.hid htx7
     have hzb7:=Lib.hid hzb7
     have HOK7:=Lib.hid hok7
     obtain ⟨A1',c1',hbo7,-,-⟩:=hj7.out
     have t0:=hbo7.cell 0
     have u0:=hbo7.frozen 0
     have hbx7:=hj7.bx0
     have t1:=hbx7.cell 0
     clear hj7 hs7 hr7 htx7 hok7
     refine anyS_go (rs:=[5]) (by kernel_rfl) (by simp) ?_
     refine allS_consK rfl (fun K hK => ?_) ?_
     ·skip
      refine step_append_row (v := .slice A1 acc.length c1) (acc:=acc) (B:=(w.heap.size+1+1+1+1+1+1)) (by rfl) _ _ (by rfl) (by rfl) HR7.out zeroL ⟨zb,0,none⟩ 1 1 (by rfl) (by rfl) (zero_news (by exact hzb7.out)) zero_ok (by decide) (by simp;omega) (by first | omega | (simp;omega)) ?_
      intro gg cap w8 hrow8 hgrow8 hat8 hlt8
      have hrow8:RowT (w.heap.size+1+1+1+1+1+1) w8 (acc++[zeroT]) (.slice (some ⟨gg,0,none⟩) (acc.length+1) cap):=hrow8
      have hgw:(w.heap.size+1+1+1+1+1+1)≤gg:=by rcases hat8 with h | h;(exact (HOWN.out gg h).1);(first | omega | (simp at h;omega))
      have HJA:=Lib.hid (HJ7.out)
      have HS8:=Lib.hid (HS7.out.grown hgrow8 (fun k hk=>by have:=HOWN.out k hk;omega))
      have HTZ8:=Lib.hid (TrU.app (g:=gg) (B:=(w.heap.size+1+1+1+1+1+1)) HTX7.out hgrow8 (fun k hk=>(HOWN.out k hk).2) hat8 (by omega))
      obtain ⟨s8,⟨k0,k1,k2,k3,k4⟩,j0,j1,j2,j3,j4⟩:=RowT.last hrow8 rfl
      have hbo8:=(hbo7).grown hgrow8 (fun e=>by have:=HOWN.out _ e.symm;omega)
      have s0:=hbo8.cell 0
      have r0:=hbo8.frozen 0
      simp only [List.getElem?_toArray,List.getElem?_cons_zero] at s0
      have hgo:gg≠w.heap.size+1:=by omega
      have hog:w.heap.size+1≠gg:=by omega
      have HROW8:=Lib.hid hrow8
      have HGR8:=Lib.hid hgrow8
      clear hrow8 hgrow8 hat8 hlt8 t0 u0 t1
      refine hK _ _ ?_
      clear hK K
      refine anyS_go (rs:=[6,8]) (by kernel_rfl) (by simp) ?_
      refine allS_consK rfl (fun K hK => ?_) ?_
      ·skip
       go_simp
       refine hK _ _ ?_
       clear hK K
       refine anyS_go (rs:=[7,8]) (by kernel_rfl) (by simp) ?_
       refine allS_consK rfl (fun K hK => ?_) ?_
       ·skip
        go_simp
        refine hK _ _ ?_
        clear hK K
        refine anyS_go (rs:=[8]) (by kernel_rfl) (by simp) ?_
        refine allS_consK rfl (fun K hK => ?_) ?_
        ·skip
         go_simp
         refine hK _ _ ?_
         clear hK K
         refine anyS_done (by kernel_rfl) ?_ _
         have HQ:=Lib.hid (ArgJ.app_a (acc:=acc) (o:=acc.length*5) (o1:=acc.length*5+1) (o2:=acc.length*5+2) (o3:=acc.length*5+3) (o4:=acc.length*5+4) (n:=acc.length+1) hlt HJA.out HGR8.out (fun k hk=>(HOWN.out k hk).1) hgw HS8.out HROW8.out rfl rfl rfl HOK7.out HTZ8.out rfl rfl rfl rfl)
         exact endJ hlt HQ.out.1 HQ.out.2
        exact allS_nil
       refine allS_consK rfl (fun K hK => ?_) ?_
       ·skip
        go_simp
        refine hK _ _ ?_
        clear hK K
        refine anyS_go (rs:=[7]) (by kernel_rfl) (by simp) ?_
        refine allS_consK rfl (fun K hK => ?_) ?_
        ·skip
         go_simp
         refine hK _ _ ?_
         clear hK K
         refine anyS_done (by kernel_rfl) ?_ _
         have HQ:=Lib.hid (ArgJ.app_b (acc:=acc) (o:=acc.length*5) (o1:=acc.length*5+1) (o2:=acc.length*5+2) (o3:=acc.length*5+3) (o4:=acc.length*5+4) (n:=acc.length+1) hlt HJA.out HGR8.out (fun k hk=>(HOWN.out k hk).1) hgw HS8.out HROW8.out rfl rfl rfl HOK7.out HTZ8.out rfl rfl rfl rfl)
         exact endJ hlt HQ.out.1 HQ.out.2
        exact allS_nil
       exact allS_nil
      refine allS_consK rfl (fun K hK => ?_) ?_
      ·skip
       go_simp
       refine hK _ _ ?_
       clear hK K
       refine anyS_go (rs:=[6]) (by kernel_rfl) (by simp) ?_
       refine allS_consK rfl (fun K hK => ?_) ?_
       ·skip
        go_simp
        refine hK _ _ ?_
        clear hK K
        refine anyS_go (rs:=[7]) (by kernel_rfl) (by simp) ?_
        refine allS_consK rfl (fun K hK => ?_) ?_
        ·skip
         go_simp
         refine hK _ _ ?_
         clear hK K
         refine anyS_done (by kernel_rfl) ?_ _
         have HQ:=Lib.hid (ArgJ.app_b (acc:=acc) (o:=acc.length*5) (o1:=acc.length*5+1) (o2:=acc.length*5+2) (o3:=acc.length*5+3) (o4:=acc.length*5+4) (n:=acc.length+1) hlt HJA.out HGR8.out (fun k hk=>(HOWN.out k hk).1) hgw HS8.out HROW8.out rfl rfl rfl HOK7.out HTZ8.out rfl rfl rfl rfl)
         exact endJ hlt HQ.out.1 HQ.out.2
        exact allS_nil
       exact allS_nil
      exact allS_nil
     exact allS_nil
    ·intro HM2
     refine anyS_go (rs:=[0,1,4]) (by kernel_rfl) (by simp) ?_
     refine allS_consK rfl (fun K hK => ?_) ?_
     ·skip
      go_simp
      refine hK _ _ ?_
      clear hK K
      refine anyS_go (rs:=[1,3,4]) (by kernel_rfl) (by simp) ?_
      refine allS_consK rfl (fun K hK => ?_) ?_
      ·skip
       go_simp
       refine hK _ _ ?_
       clear hK K
       refine anyS_go (rs:=[2,3,4]) (by kernel_rfl) (by simp) ?_
       refine allS_consK rfl (fun K hK => ?_) ?_
       ·skip
        go_simp
        refine (R.expr _ _ _ HS1d.out (LF.out.expr _ _ HM.out)).mono ?_
        rintro e w7 ⟨⟨v7,rfl,hok7,d7,sl7,rfl,htr7⟩,hs7,ht7⟩
        obtain ⟨A7,c7,rfl⟩:=htr7.form
        have HJ7:=Lib.hid (HJ1d.out.tr hlt ht7)
        have HOK7:=Lib.hid hok7
        have HS7:=Lib.hid hs7
        have HTX7:=Lib.hid (TrU.weaken (B':=W1.heap.size) (Nat.le_refl _) htr7)
        have hwz7:W1.heap.size≤w7.heap.size:=ht7.size
        have HR7:=Lib.hid (RowT.tr HR1.out.dr ht7 (by omega))
        have hbo7:=HBO1.out.dr.tr ht7 (by omega)
        have t0:=hbo7.cell 0
        have u0:=hbo7.frozen 0
        have hz7:=hbo7.lt
        have hbx7:=HBX1.out.dr.tr ht7 (by omega)
        have t1:=hbx7.cell 0
        have hz70:=hbx7.lt
        simp only [List.getElem?_toArray,List.getElem?_cons_zero] at t0 t1
        refine hK _ _ ?_
        clear hK K
        refine anyS_go (rs:=[3,4]) (by kernel_rfl) (by simp) ?_
        refine allS_consK rfl (fun K hK => ?_) ?_
        ·skip
         go_simp
         refine hK _ _ ?_
         clear hK K
         refine anyS_go (rs:=[4]) (by kernel_rfl) (by simp) ?_
         refine allS_consK rfl (fun K hK => ?_) ?_
         ·skip
          go_simp
          refine hK _ _ ?_
          clear hK K
          exact anyS_cast (by kernel_rfl) (HM2 _ _ ⟨w7.heap.size,A7,c7,d7,rfl,HJ7.out.al (.cells #[.int .i64 0,.string ⟨#[]⟩,.int .i64 0,.slice none 0 0,.int .i64 0] 29),HS7.out.alloc (.cells #[.int .i64 0,.string ⟨#[]⟩,.int .i64 0,.slice none 0 0,.int .i64 0] 29),HR7.out.al (.cells #[.int .i64 0,.string ⟨#[]⟩,.int .i64 0,.slice none 0 0,.int .i64 0] 29),HTX7.out.al (.cells #[.int .i64 0,.string ⟨#[]⟩,.int .i64 0,.slice none 0 0,.int .i64 0] 29),Blk.new w7 29 #[.int .i64 0,.string ⟨#[]⟩,.int .i64 0,.slice none 0 0,.int .i64 0],by rw [World.size_alloc];omega,HOK7.out⟩)
         exact allS_nil
        refine allS_consK rfl (fun K hK => ?_) ?_
        ·skip
         go_simp
         refine hK _ _ ?_
         clear hK K
         refine anyS_go (rs:=[3]) (by kernel_rfl) (by simp) ?_
         refine allS_consK rfl (fun K hK => ?_) ?_
         ·skip
          go_simp
          refine hK _ _ ?_
          clear hK K
          exact anyS_cast (by kernel_rfl) (HM2 _ _ ⟨w7.heap.size,A7,c7,d7,rfl,HJ7.out.al (.cells #[.int .i64 0,.string ⟨#[]⟩,.int .i64 0,.slice none 0 0,.int .i64 0] 29),HS7.out.alloc (.cells #[.int .i64 0,.string ⟨#[]⟩,.int .i64 0,.slice none 0 0,.int .i64 0] 29),HR7.out.al (.cells #[.int .i64 0,.string ⟨#[]⟩,.int .i64 0,.slice none 0 0,.int .i64 0] 29),HTX7.out.al (.cells #[.int .i64 0,.string ⟨#[]⟩,.int .i64 0,.slice none 0 0,.int .i64 0] 29),Blk.new w7 29 #[.int .i64 0,.string ⟨#[]⟩,.int .i64 0,.slice none 0 0,.int .i64 0],by rw [World.size_alloc];omega,HOK7.out⟩)
         exact allS_nil
        exact allS_nil
       refine allS_consK rfl (fun K hK => ?_) ?_
       ·skip
        go_simp
        refine hK _ _ ?_
        clear hK K
        refine anyS_go (rs:=[2,4]) (by kernel_rfl) (by simp) ?_
        refine allS_consK rfl (fun K hK => ?_) ?_
        ·skip
         go_simp
         refine (R.expr _ _ _ HS1d.out (LF.out.expr _ _ HM.out)).mono ?_
         rintro e w7 ⟨⟨v7,rfl,hok7,d7,sl7,rfl,htr7⟩,hs7,ht7⟩
         obtain ⟨A7,c7,rfl⟩:=htr7.form
         have HJ7:=Lib.hid (HJ1d.out.tr hlt ht7)
         have HOK7:=Lib.hid hok7
         have HS7:=Lib.hid hs7
         have HTX7:=Lib.hid (TrU.weaken (B':=W1.heap.size) (Nat.le_refl _) htr7)
         have hwz7:W1.heap.size≤w7.heap.size:=ht7.size
         have HR7:=Lib.hid (RowT.tr HR1.out.dr ht7 (by omega))
         have hbo7:=HBO1.out.dr.tr ht7 (by omega)
         have t0:=hbo7.cell 0
         have u0:=hbo7.frozen 0
         have hz7:=hbo7.lt
         have hbx7:=HBX1.out.dr.tr ht7 (by omega)
         have t1:=hbx7.cell 0
         have hz70:=hbx7.lt
         simp only [List.getElem?_toArray,List.getElem?_cons_zero] at t0 t1
         refine hK _ _ ?_
         clear hK K
         refine anyS_go (rs:=[4]) (by kernel_rfl) (by simp) ?_
         refine allS_consK rfl (fun K hK => ?_) ?_
         ·skip
          go_simp
          refine hK _ _ ?_
          clear hK K
          exact anyS_cast (by kernel_rfl) (HM2 _ _ ⟨w7.heap.size,A7,c7,d7,rfl,HJ7.out.al (.cells #[.int .i64 0,.string ⟨#[]⟩,.int .i64 0,.slice none 0 0,.int .i64 0] 29),HS7.out.alloc (.cells #[.int .i64 0,.string ⟨#[]⟩,.int .i64 0,.slice none 0 0,.int .i64 0] 29),HR7.out.al (.cells #[.int .i64 0,.string ⟨#[]⟩,.int .i64 0,.slice none 0 0,.int .i64 0] 29),HTX7.out.al (.cells #[.int .i64 0,.string ⟨#[]⟩,.int .i64 0,.slice none 0 0,.int .i64 0] 29),Blk.new w7 29 #[.int .i64 0,.string ⟨#[]⟩,.int .i64 0,.slice none 0 0,.int .i64 0],by rw [World.size_alloc];omega,HOK7.out⟩)
         exact allS_nil
        refine allS_consK rfl (fun K hK => ?_) ?_
        ·skip
         go_simp
         refine hK _ _ ?_
         clear hK K
         refine anyS_go (rs:=[2]) (by kernel_rfl) (by simp) ?_
         refine allS_consK rfl (fun K hK => ?_) ?_
         ·skip
          go_simp
          refine (R.expr _ _ _ HS1z.out (LF.out.expr _ _ HM.out)).mono ?_
          rintro e w7 ⟨⟨v7,rfl,hok7,d7,sl7,rfl,htr7⟩,hs7,ht7⟩
          obtain ⟨A7,c7,rfl⟩:=htr7.form
          have HJ7:=Lib.hid (HJ1z.out.tr hlt ht7)
          have HOK7:=Lib.hid hok7
          have HS7:=Lib.hid hs7
          have HTX7:=Lib.hid (TrU.weaken (B':=W1.heap.size) (by show W1.heap.size≤(W1.alloc _).heap.size;rw [World.size_alloc];omega) htr7)
          have hzb7:=Lib.hid ((Blk.new W1 29 #[.int .i64 0,.string ⟨#[]⟩,.int .i64 0,.slice none 0 0,.int .i64 0]).dr.tr ht7 (by omega))
          have hwz7:W1.heap.size≤w7.heap.size:=by have h9:(W1.alloc (.cells #[.int .i64 0,.string ⟨#[]⟩,.int .i64 0,.slice none 0 0,.int .i64 0] 29)).heap.size≤w7.heap.size:=ht7.size;rw [World.size_alloc] at h9;omega
          have HR7:=Lib.hid (RowT.tr (HR1.out.al (.cells #[.int .i64 0,.string ⟨#[]⟩,.int .i64 0,.slice none 0 0,.int .i64 0] 29)).dr ht7 (by omega))
          have hbo7:=(HBO1.out.alloc (.cells #[.int .i64 0,.string ⟨#[]⟩,.int .i64 0,.slice none 0 0,.int .i64 0] 29)).dr.tr ht7 (by omega)
          have t0:=hbo7.cell 0
          have u0:=hbo7.frozen 0
          have hz7:=hbo7.lt
          have hbx7:=(HBX1.out.alloc (.cells #[.int .i64 0,.string ⟨#[]⟩,.int .i64 0,.slice none 0 0,.int .i64 0] 29)).dr.tr ht7 (by omega)
          have t1:=hbx7.cell 0
          have hz70:=hbx7.lt
          simp only [List.getElem?_toArray,List.getElem?_cons_zero] at t0 t1
          refine hK _ _ ?_
          clear hK K
          exact anyS_cast (by kernel_rfl) (HM2 _ _ ⟨W1.heap.size,A7,c7,d7,rfl,HJ7.out,HS7.out,HR7.out,HTX7.out,hzb7.out,hwz7,HOK7.out⟩)
         exact allS_nil
        exact allS_nil
       refine allS_consK rfl (fun K hK => ?_) ?_
       ·skip
        go_simp
        refine hK _ _ ?_
        clear hK K
        refine anyS_go (rs:=[2,3]) (by kernel_rfl) (by simp) ?_
        refine allS_consK rfl (fun K hK => ?_) ?_
        ·skip
         go_simp
         refine (R.expr _ _ _ HS1z.out (LF.out.expr _ _ HM.out)).mono ?_
         rintro e w7 ⟨⟨v7,rfl,hok7,d7,sl7,rfl,htr7⟩,hs7,ht7⟩
         obtain ⟨A7,c7,rfl⟩:=htr7.form
         have HJ7:=Lib.hid (HJ1z.out.tr hlt ht7)
         have HOK7:=Lib.hid hok7
         have HS7:=Lib.hid hs7
         have HTX7:=Lib.hid (TrU.weaken (B':=W1.heap.size) (by show W1.heap.size≤(W1.alloc _).heap.size;rw [World.size_alloc];omega) htr7)
         have hzb7:=Lib.hid ((Blk.new W1 29 #[.int .i64 0,.string ⟨#[]⟩,.int .i64 0,.slice none 0 0,.int .i64 0]).dr.tr ht7 (by omega))
         have hwz7:W1.heap.size≤w7.heap.size:=by have h9:(W1.alloc (.cells #[.int .i64 0,.string ⟨#[]⟩,.int .i64 0,.slice none 0 0,.int .i64 0] 29)).heap.size≤w7.heap.size:=ht7.size;rw [World.size_alloc] at h9;omega
         have HR7:=Lib.hid (RowT.tr (HR1.out.al (.cells #[.int .i64 0,.string ⟨#[]⟩,.int .i64 0,.slice none 0 0,.int .i64 0] 29)).dr ht7 (by omega))
         have hbo7:=(HBO1.out.alloc (.cells #[.int .i64 0,.string ⟨#[]⟩,.int .i64 0,.slice none 0 0,.int .i64 0] 29)).dr.tr ht7 (by omega)
         have t0:=hbo7.cell 0
         have u0:=hbo7.frozen 0
         have hz7:=hbo7.lt
         have hbx7:=(HBX1.out.alloc (.cells #[.int .i64 0,.string ⟨#[]⟩,.int .i64 0,.slice none 0 0,.int .i64 0] 29)).dr.tr ht7 (by omega)
         have t1:=hbx7.cell 0
         have hz70:=hbx7.lt
         simp only [List.getElem?_toArray,List.getElem?_cons_zero] at t0 t1
         refine hK _ _ ?_
         clear hK K
         refine anyS_go (rs:=[3]) (by kernel_rfl) (by simp) ?_
         refine allS_consK rfl (fun K hK => ?_) ?_
         ·skip
          go_simp
          refine hK _ _ ?_
          clear hK K
          exact anyS_cast (by kernel_rfl) (HM2 _ _ ⟨W1.heap.size,A7,c7,d7,rfl,HJ7.out,HS7.out,HR7.out,HTX7.out,hzb7.out,hwz7,HOK7.out⟩)
         exact allS_nil
        refine allS_consK rfl (fun K hK => ?_) ?_
        ·skip
         go_simp
         refine hK _ _ ?_
         clear hK K
         refine anyS_go (rs:=[2]) (by kernel_rfl) (by simp) ?_
         refine allS_consK rfl (fun K hK => ?_) ?_
         ·skip
          go_simp
          refine (R.expr _ _ _ HS1z.out (LF.out.expr _ _ HM.out)).mono ?_
          rintro e w7 ⟨⟨v7,rfl,hok7,d7,sl7,rfl,htr7⟩,hs7,ht7⟩
          obtain ⟨A7,c7,rfl⟩:=htr7.form
          have HJ7:=Lib.hid (HJ1z.out.tr hlt ht7)
          have HOK7:=Lib.hid hok7
          have HS7:=Lib.hid hs7
          have HTX7:=Lib.hid (TrU.weaken (B':=W1.heap.size) (by show W1.heap.size≤(W1.alloc _).heap.size;rw [World.size_alloc];omega) htr7)
          have hzb7:=Lib.hid ((Blk.new W1 29 #[.int .i64 0,.string ⟨#[]⟩,.int .i64 0,.slice none 0 0,.int .i64 0]).dr.tr ht7 (by omega))
          have hwz7:W1.heap.size≤w7.heap.size:=by have h9:(W1.alloc (.cells #[.int .i64 0,.string ⟨#[]⟩,.int .i64 0,.slice none 0 0,.int .i64 0] 29)).heap.size≤w7.heap.size:=ht7.size;rw [World.size_alloc] at h9;omega
          have HR7:=Lib.hid (RowT.tr (HR1.out.al (.cells #[.int .i64 0,.string ⟨#[]⟩,.int .i64 0,.slice none 0 0,.int .i64 0] 29)).dr ht7 (by omega))
          have hbo7:=(HBO1.out.alloc (.cells #[.int .i64 0,.string ⟨#[]⟩,.int .i64 0,.slice none 0 0,.int .i64 0] 29)).dr.tr ht7 (by omega)
          have t0:=hbo7.cell 0
          have u0:=hbo7.frozen 0
          have hz7:=hbo7.lt
          have hbx7:=(HBX1.out.alloc (.cells #[.int .i64 0,.string ⟨#[]⟩,.int .i64 0,.slice none 0 0,.int .i64 0] 29)).dr.tr ht7 (by omega)
          have t1:=hbx7.cell 0
          have hz70:=hbx7.lt
          simp only [List.getElem?_toArray,List.getElem?_cons_zero] at t0 t1
          refine hK _ _ ?_
          clear hK K
          exact anyS_cast (by kernel_rfl) (HM2 _ _ ⟨W1.heap.size,A7,c7,d7,rfl,HJ7.out,HS7.out,HR7.out,HTX7.out,hzb7.out,hwz7,HOK7.out⟩)
         exact allS_nil
        exact allS_nil
       exact allS_nil
      refine allS_consK rfl (fun K hK => ?_) ?_
      ·skip
       go_simp
       refine hK _ _ ?_
       clear hK K
       refine anyS_go (rs:=[1,4]) (by kernel_rfl) (by simp) ?_
       refine allS_consK rfl (fun K hK => ?_) ?_
       ·skip
        go_simp
        refine hK _ _ ?_
        clear hK K
        refine anyS_go (rs:=[2,4]) (by kernel_rfl) (by simp) ?_
        refine allS_consK rfl (fun K hK => ?_) ?_
        ·skip
         go_simp
         refine (R.expr _ _ _ HS1d.out (LF.out.expr _ _ HM.out)).mono ?_
         rintro e w7 ⟨⟨v7,rfl,hok7,d7,sl7,rfl,htr7⟩,hs7,ht7⟩
         obtain ⟨A7,c7,rfl⟩:=htr7.form
         have HJ7:=Lib.hid (HJ1d.out.tr hlt ht7)
         have HOK7:=Lib.hid hok7
         have HS7:=Lib.hid hs7
         have HTX7:=Lib.hid (TrU.weaken (B':=W1.heap.size) (Nat.le_refl _) htr7)
         have hwz7:W1.heap.size≤w7.heap.size:=ht7.size
         have HR7:=Lib.hid (RowT.tr HR1.out.dr ht7 (by omega))
         have hbo7:=HBO1.out.dr.tr ht7 (by omega)
         have t0:=hbo7.cell 0
         have u0:=hbo7.frozen 0
         have hz7:=hbo7.lt
         have hbx7:=HBX1.out.dr.tr ht7 (by omega)
         have t1:=hbx7.cell 0
         have hz70:=hbx7.lt
         simp only [List.getElem?_toArray,List.getElem?_cons_zero] at t0 t1
         refine hK _ _ ?_
         clear hK K
         refine anyS_go (rs:=[4]) (by kernel_rfl) (by simp) ?_
         refine allS_consK rfl (fun K hK => ?_) ?_
         ·skip
          go_simp
          refine hK _ _ ?_
          clear hK K
          exact anyS_cast (by kernel_rfl) (HM2 _ _ ⟨w7.heap.size,A7,c7,d7,rfl,HJ7.out.al (.cells #[.int .i64 0,.string ⟨#[]⟩,.int .i64 0,.slice none 0 0,.int .i64 0] 29),HS7.out.alloc (.cells #[.int .i64 0,.string ⟨#[]⟩,.int .i64 0,.slice none 0 0,.int .i64 0] 29),HR7.out.al (.cells #[.int .i64 0,.string ⟨#[]⟩,.int .i64 0,.slice none 0 0,.int .i64 0] 29),HTX7.out.al (.cells #[.int .i64 0,.string ⟨#[]⟩,.int .i64 0,.slice none 0 0,.int .i64 0] 29),Blk.new w7 29 #[.int .i64 0,.string ⟨#[]⟩,.int .i64 0,.slice none 0 0,.int .i64 0],by rw [World.size_alloc];omega,HOK7.out⟩)
         exact allS_nil
        refine allS_consK rfl (fun K hK => ?_) ?_
        ·skip
         go_simp
         refine hK _ _ ?_
         clear hK K
         refine anyS_go (rs:=[2]) (by kernel_rfl) (by simp) ?_
         refine allS_consK rfl (fun K hK => ?_) ?_
         ·skip
          go_simp
          refine (R.expr _ _ _ HS1z.out (LF.out.expr _ _ HM.out)).mono ?_
          rintro e w7 ⟨⟨v7,rfl,hok7,d7,sl7,rfl,htr7⟩,hs7,ht7⟩
          obtain ⟨A7,c7,rfl⟩:=htr7.form
          have HJ7:=Lib.hid (HJ1z.out.tr hlt ht7)
          have HOK7:=Lib.hid hok7
          have HS7:=Lib.hid hs7
          have HTX7:=Lib.hid (TrU.weaken (B':=W1.heap.size) (by show W1.heap.size≤(W1.alloc _).heap.size;rw [World.size_alloc];omega) htr7)
          have hzb7:=Lib.hid ((Blk.new W1 29 #[.int .i64 0,.string ⟨#[]⟩,.int .i64 0,.slice none 0 0,.int .i64 0]).dr.tr ht7 (by omega))
          have hwz7:W1.heap.size≤w7.heap.size:=by have h9:(W1.alloc (.cells #[.int .i64 0,.string ⟨#[]⟩,.int .i64 0,.slice none 0 0,.int .i64 0] 29)).heap.size≤w7.heap.size:=ht7.size;rw [World.size_alloc] at h9;omega
          have HR7:=Lib.hid (RowT.tr (HR1.out.al (.cells #[.int .i64 0,.string ⟨#[]⟩,.int .i64 0,.slice none 0 0,.int .i64 0] 29)).dr ht7 (by omega))
          have hbo7:=(HBO1.out.alloc (.cells #[.int .i64 0,.string ⟨#[]⟩,.int .i64 0,.slice none 0 0,.int .i64 0] 29)).dr.tr ht7 (by omega)
          have t0:=hbo7.cell 0
          have u0:=hbo7.frozen 0
          have hz7:=hbo7.lt
          have hbx7:=(HBX1.out.alloc (.cells #[.int .i64 0,.string ⟨#[]⟩,.int .i64 0,.slice none 0 0,.int .i64 0] 29)).dr.tr ht7 (by omega)
          have t1:=hbx7.cell 0
          have hz70:=hbx7.lt
          simp only [List.getElem?_toArray,List.getElem?_cons_zero] at t0 t1
          refine hK _ _ ?_
          clear hK K
          exact anyS_cast (by kernel_rfl) (HM2 _ _ ⟨W1.heap.size,A7,c7,d7,rfl,HJ7.out,HS7.out,HR7.out,HTX7.out,hzb7.out,hwz7,HOK7.out⟩)
         exact allS_nil
        exact allS_nil
       refine allS_consK rfl (fun K hK => ?_) ?_
       ·skip
        go_simp
        refine hK _ _ ?_
        clear hK K
        refine anyS_go (rs:=[1]) (by kernel_rfl) (by simp) ?_
        refine allS_consK rfl (fun K hK => ?_) ?_
        ·skip
         go_simp
         refine hK _ _ ?_
         clear hK K
         refine anyS_go (rs:=[2]) (by kernel_rfl) (by simp) ?_
         refine allS_consK rfl (fun K hK => ?_) ?_
         ·skip
          go_simp
          refine (R.expr _ _ _ HS1z.out (LF.out.expr _ _ HM.out)).mono ?_
          rintro e w7 ⟨⟨v7,rfl,hok7,d7,sl7,rfl,htr7⟩,hs7,ht7⟩
          obtain ⟨A7,c7,rfl⟩:=htr7.form
          have HJ7:=Lib.hid (HJ1z.out.tr hlt ht7)
          have HOK7:=Lib.hid hok7
          have HS7:=Lib.hid hs7
          have HTX7:=Lib.hid (TrU.weaken (B':=W1.heap.size) (by show W1.heap.size≤(W1.alloc _).heap.size;rw [World.size_alloc];omega) htr7)
          have hzb7:=Lib.hid ((Blk.new W1 29 #[.int .i64 0,.string ⟨#[]⟩,.int .i64 0,.slice none 0 0,.int .i64 0]).dr.tr ht7 (by omega))
          have hwz7:W1.heap.size≤w7.heap.size:=by have h9:(W1.alloc (.cells #[.int .i64 0,.string ⟨#[]⟩,.int .i64 0,.slice none 0 0,.int .i64 0] 29)).heap.size≤w7.heap.size:=ht7.size;rw [World.size_alloc] at h9;omega
          have HR7:=Lib.hid (RowT.tr (HR1.out.al (.cells #[.int .i64 0,.string ⟨#[]⟩,.int .i64 0,.slice none 0 0,.int .i64 0] 29)).dr ht7 (by omega))
          have hbo7:=(HBO1.out.alloc (.cells #[.int .i64 0,.string ⟨#[]⟩,.int .i64 0,.slice none 0 0,.int .i64 0] 29)).dr.tr ht7 (by omega)
          have t0:=hbo7.cell 0
          have u0:=hbo7.frozen 0
          have hz7:=hbo7.lt
          have hbx7:=(HBX1.out.alloc (.cells #[.int .i64 0,.string ⟨#[]⟩,.int .i64 0,.slice none 0 0,.int .i64 0] 29)).dr.tr ht7 (by omega)
          have t1:=hbx7.cell 0
          have hz70:=hbx7.lt
          simp only [List.getElem?_toArray,List.getElem?_cons_zero] at t0 t1
          refine hK _ _ ?_
          clear hK K
          exact anyS_cast (by kernel_rfl) (HM2 _ _ ⟨W1.heap.size,A7,c7,d7,rfl,HJ7.out,HS7.out,HR7.out,HTX7.out,hzb7.out,hwz7,HOK7.out⟩)
         exact allS_nil
        exact allS_nil
       exact allS_nil
      refine allS_consK rfl (fun K hK => ?_) ?_
      ·skip
       go_simp
       refine hK _ _ ?_
       clear hK K
       refine anyS_go (rs:=[1,3]) (by kernel_rfl) (by simp) ?_
       refine allS_consK rfl (fun K hK => ?_) ?_
       ·skip
        go_simp
        refine hK _ _ ?_
        clear hK K
        refine anyS_go (rs:=[2,3]) (by kernel_rfl) (by simp) ?_
        refine allS_consK rfl (fun K hK => ?_) ?_
        ·skip
         go_simp
         refine (R.expr _ _ _ HS1z.out (LF.out.expr _ _ HM.out)).mono ?_
         rintro e w7 ⟨⟨v7,rfl,hok7,d7,sl7,rfl,htr7⟩,hs7,ht7⟩
         obtain ⟨A7,c7,rfl⟩:=htr7.form
         have HJ7:=Lib.hid (HJ1z.out.tr hlt ht7)
         have HOK7:=Lib.hid hok7
         have HS7:=Lib.hid hs7
         have HTX7:=Lib.hid (TrU.weaken (B':=W1.heap.size) (by show W1.heap.size≤(W1.alloc _).heap.size;rw [World.size_alloc];omega) htr7)
         have hzb7:=Lib.hid ((Blk.new W1 29 #[.int .i64 0,.string ⟨#[]⟩,.int .i64 0,.slice none 0 0,.int .i64 0]).dr.tr ht7 (by omega))
         have hwz7:W1.heap.size≤w7.heap.size:=by have h9:(W1.alloc (.cells #[.int .i64 0,.string ⟨#[]⟩,.int .i64 0,.slice none 0 0,.int .i64 0] 29)).heap.size≤w7.heap.size:=ht7.size;rw [World.size_alloc] at h9;omega
         have HR7:=Lib.hid (RowT.tr (HR1.out.al (.cells #[.int .i64 0,.string ⟨#[]⟩,.int .i64 0,.slice none 0 0,.int .i64 0] 29)).dr ht7 (by omega))
         have hbo7:=(HBO1.out.alloc (.cells #[.int .i64 0,.string ⟨#[]⟩,.int .i64 0,.slice none 0 0,.int .i64 0] 29)).dr.tr ht7 (by omega)
         have t0:=hbo7.cell 0
         have u0:=hbo7.frozen 0
         have hz7:=hbo7.lt
         have hbx7:=(HBX1.out.alloc (.cells #[.int .i64 0,.string ⟨#[]⟩,.int .i64 0,.slice none 0 0,.int .i64 0] 29)).dr.tr ht7 (by omega)
         have t1:=hbx7.cell 0
         have hz70:=hbx7.lt
         simp only [List.getElem?_toArray,List.getElem?_cons_zero] at t0 t1
         refine hK _ _ ?_
         clear hK K
         refine anyS_go (rs:=[3]) (by kernel_rfl) (by simp) ?_
         refine allS_consK rfl (fun K hK => ?_) ?_
         ·skip
          go_simp
          refine hK _ _ ?_
          clear hK K
          exact anyS_cast (by kernel_rfl) (HM2 _ _ ⟨W1.heap.size,A7,c7,d7,rfl,HJ7.out,HS7.out,HR7.out,HTX7.out,hzb7.out,hwz7,HOK7.out⟩)
         exact allS_nil
        refine allS_consK rfl (fun K hK => ?_) ?_
        ·skip
         go_simp
         refine hK _ _ ?_
         clear hK K
         refine anyS_go (rs:=[2]) (by kernel_rfl) (by simp) ?_
         refine allS_consK rfl (fun K hK => ?_) ?_
         ·skip
          go_simp
          refine (R.expr _ _ _ HS1z.out (LF.out.expr _ _ HM.out)).mono ?_
          rintro e w7 ⟨⟨v7,rfl,hok7,d7,sl7,rfl,htr7⟩,hs7,ht7⟩
          obtain ⟨A7,c7,rfl⟩:=htr7.form
          have HJ7:=Lib.hid (HJ1z.out.tr hlt ht7)
          have HOK7:=Lib.hid hok7
          have HS7:=Lib.hid hs7
          have HTX7:=Lib.hid (TrU.weaken (B':=W1.heap.size) (by show W1.heap.size≤(W1.alloc _).heap.size;rw [World.size_alloc];omega) htr7)
          have hzb7:=Lib.hid ((Blk.new W1 29 #[.int .i64 0,.string ⟨#[]⟩,.int .i64 0,.slice none 0 0,.int .i64 0]).dr.tr ht7 (by omega))
          have hwz7:W1.heap.size≤w7.heap.size:=by have h9:(W1.alloc (.cells #[.int .i64 0,.string ⟨#[]⟩,.int .i64 0,.slice none 0 0,.int .i64 0] 29)).heap.size≤w7.heap.size:=ht7.size;rw [World.size_alloc] at h9;omega
          have HR7:=Lib.hid (RowT.tr (HR1.out.al (.cells #[.int .i64 0,.string ⟨#[]⟩,.int .i64 0,.slice none 0 0,.int .i64 0] 29)).dr ht7 (by omega))
          have hbo7:=(HBO1.out.alloc (.cells #[.int .i64 0,.string ⟨#[]⟩,.int .i64 0,.slice none 0 0,.int .i64 0] 29)).dr.tr ht7 (by omega)
          have t0:=hbo7.cell 0
          have u0:=hbo7.frozen 0
          have hz7:=hbo7.lt
          have hbx7:=(HBX1.out.alloc (.cells #[.int .i64 0,.string ⟨#[]⟩,.int .i64 0,.slice none 0 0,.int .i64 0] 29)).dr.tr ht7 (by omega)
          have t1:=hbx7.cell 0
          have hz70:=hbx7.lt
          simp only [List.getElem?_toArray,List.getElem?_cons_zero] at t0 t1
          refine hK _ _ ?_
          clear hK K
          exact anyS_cast (by kernel_rfl) (HM2 _ _ ⟨W1.heap.size,A7,c7,d7,rfl,HJ7.out,HS7.out,HR7.out,HTX7.out,hzb7.out,hwz7,HOK7.out⟩)
         exact allS_nil
        exact allS_nil
       refine allS_consK rfl (fun K hK => ?_) ?_
       ·skip
        go_simp
        refine hK _ _ ?_
        clear hK K
        refine anyS_go (rs:=[1]) (by kernel_rfl) (by simp) ?_
        refine allS_consK rfl (fun K hK => ?_) ?_
        ·skip
         go_simp
         refine hK _ _ ?_
         clear hK K
         refine anyS_go (rs:=[2]) (by kernel_rfl) (by simp) ?_
         refine allS_consK rfl (fun K hK => ?_) ?_
         ·skip
          go_simp
          refine (R.expr _ _ _ HS1z.out (LF.out.expr _ _ HM.out)).mono ?_
          rintro e w7 ⟨⟨v7,rfl,hok7,d7,sl7,rfl,htr7⟩,hs7,ht7⟩
          obtain ⟨A7,c7,rfl⟩:=htr7.form
          have HJ7:=Lib.hid (HJ1z.out.tr hlt ht7)
          have HOK7:=Lib.hid hok7
          have HS7:=Lib.hid hs7
          have HTX7:=Lib.hid (TrU.weaken (B':=W1.heap.size) (by show W1.heap.size≤(W1.alloc _).heap.size;rw [World.size_alloc];omega) htr7)
          have hzb7:=Lib.hid ((Blk.new W1 29 #[.int .i64 0,.string ⟨#[]⟩,.int .i64 0,.slice none 0 0,.int .i64 0]).dr.tr ht7 (by omega))
          have hwz7:W1.heap.size≤w7.heap.size:=by have h9:(W1.alloc (.cells #[.int .i64 0,.string ⟨#[]⟩,.int .i64 0,.slice none 0 0,.int .i64 0] 29)).heap.size≤w7.heap.size:=ht7.size;rw [World.size_alloc] at h9;omega
          have HR7:=Lib.hid (RowT.tr (HR1.out.al (.cells #[.int .i64 0,.string ⟨#[]⟩,.int .i64 0,.slice none 0 0,.int .i64 0] 29)).dr ht7 (by omega))
          have hbo7:=(HBO1.out.alloc (.cells #[.int .i64 0,.string ⟨#[]⟩,.int .i64 0,.slice none 0 0,.int .i64 0] 29)).dr.tr ht7 (by omega)
          have t0:=hbo7.cell 0
          have u0:=hbo7.frozen 0
          have hz7:=hbo7.lt
          have hbx7:=(HBX1.out.alloc (.cells #[.int .i64 0,.string ⟨#[]⟩,.int .i64 0,.slice none 0 0,.int .i64 0] 29)).dr.tr ht7 (by omega)
          have t1:=hbx7.cell 0
          have hz70:=hbx7.lt
          simp only [List.getElem?_toArray,List.getElem?_cons_zero] at t0 t1
          refine hK _ _ ?_
          clear hK K
          exact anyS_cast (by kernel_rfl) (HM2 _ _ ⟨W1.heap.size,A7,c7,d7,rfl,HJ7.out,HS7.out,HR7.out,HTX7.out,hzb7.out,hwz7,HOK7.out⟩)
         exact allS_nil
        exact allS_nil
       exact allS_nil
      exact allS_nil
     refine allS_consK rfl (fun K hK => ?_) ?_
     ·skip
      go_simp
      refine hK _ _ ?_
      clear hK K
      refine anyS_go (rs:=[0,2,4]) (by kernel_rfl) (by simp) ?_
      refine allS_consK rfl (fun K hK => ?_) ?_
      ·skip
       go_simp
       refine hK _ _ ?_
       clear hK K
       refine anyS_go (rs:=[2,3,4]) (by kernel_rfl) (by simp) ?_
       refine allS_consK rfl (fun K hK => ?_) ?_
       ·skip
        go_simp
        refine (R.expr _ _ _ HS1d.out (LF.out.expr _ _ HM.out)).mono ?_
        rintro e w7 ⟨⟨v7,rfl,hok7,d7,sl7,rfl,htr7⟩,hs7,ht7⟩
        obtain ⟨A7,c7,rfl⟩:=htr7.form
        have HJ7:=Lib.hid (HJ1d.out.tr hlt ht7)
        have HOK7:=Lib.hid hok7
        have HS7:=Lib.hid hs7
        have HTX7:=Lib.hid (TrU.weaken (B':=W1.heap.size) (Nat.le_refl _) htr7)
        have hwz7:W1.heap.size≤w7.heap.size:=ht7.size
        have HR7:=Lib.hid (RowT.tr HR1.out.dr ht7 (by omega))
        have hbo7:=HBO1.out.dr.tr ht7 (by omega)
        have t0:=hbo7.cell 0
        have u0:=hbo7.frozen 0
        have hz7:=hbo7.lt
        have hbx7:=HBX1.out.dr.tr ht7 (by omega)
        have t1:=hbx7.cell 0
        have hz70:=hbx7.lt
        simp only [List.getElem?_toArray,List.getElem?_cons_zero] at t0 t1
        refine hK _ _ ?_
        clear hK K
        refine anyS_go (rs:=[3,4]) (by kernel_rfl) (by simp) ?_
        refine allS_consK rfl (fun K hK => ?_) ?_
        ·skip
         go_simp
         refine hK _ _ ?_
         clear hK K
         refine anyS_go (rs:=[4]) (by kernel_rfl) (by simp) ?_
         refine allS_consK rfl (fun K hK => ?_) ?_
         ·skip
          go_simp
          refine hK _ _ ?_
          clear hK K
          exact anyS_cast (by kernel_rfl) (HM2 _ _ ⟨w7.heap.size,A7,c7,d7,rfl,HJ7.out.al (.cells #[.int .i64 0,.string ⟨#[]⟩,.int .i64 0,.slice none 0 0,.int .i64 0] 29),HS7.out.alloc (.cells #[.int .i64 0,.string ⟨#[]⟩,.int .i64 0,.slice none 0 0,.int .i64 0] 29),HR7.out.al (.cells #[.int .i64 0,.string ⟨#[]⟩,.int .i64 0,.slice none 0 0,.int .i64 0] 29),HTX7.out.al (.cells #[.int .i64 0,.string ⟨#[]⟩,.int .i64 0,.slice none 0 0,.int .i64 0] 29),Blk.new w7 29 #[.int .i64 0,.string ⟨#[]⟩,.int .i64 0,.slice none 0 0,.int .i64 0],by rw [World.size_alloc];omega,HOK7.out⟩)
         exact allS_nil
        refine allS_consK rfl (fun K hK => ?_) ?_
        ·skip
         go_simp
         refine hK _ _ ?_
         clear hK K
         refine anyS_go (rs:=[3]) (by kernel_rfl) (by simp) ?_
         refine allS_consK rfl (fun K hK => ?_) ?_
         ·skip
          go_simp
          refine hK _ _ ?_
          clear hK K
          exact anyS_cast (by kernel_rfl) (HM2 _ _ ⟨w7.heap.size,A7,c7,d7,rfl,HJ7.out.al (.cells #[.int .i64 0,.string ⟨#[]⟩,.int .i64 0,.slice none 0 0,.int .i64 0] 29),HS7.out.alloc (.cells #[.int .i64 0,.string ⟨#[]⟩,.int .i64 0,.slice none 0 0,.int .i64 0] 29),HR7.out.al (.cells #[.int .i64 0,.string ⟨#[]⟩,.int .i64 0,.slice none 0 0,.int .i64 0] 29),HTX7.out.al (.cells #[.int .i64 0,.string ⟨#[]⟩,.int .i64 0,.slice none 0 0,.int .i64 0] 29),Blk.new w7 29 #[.int .i64 0,.string ⟨#[]⟩,.int .i64 0,.slice none 0 0,.int .i64 0],by rw [World.size_alloc];omega,HOK7.out⟩)
         exact allS_nil
        exact allS_nil
       refine allS_consK rfl (fun K hK => ?_) ?_
       ·skip
        go_simp
        refine hK _ _ ?_
        clear hK K
        refine anyS_go (rs:=[2,4]) (by kernel_rfl) (by simp) ?_
        refine allS_consK rfl (fun K hK => ?_) ?_
        ·skip
         go_simp
         refine (R.expr _ _ _ HS1d.out (LF.out.expr _ _ HM.out)).mono ?_
         rintro e w7 ⟨⟨v7,rfl,hok7,d7,sl7,rfl,htr7⟩,hs7,ht7⟩
         obtain ⟨A7,c7,rfl⟩:=htr7.form
         have HJ7:=Lib.hid (HJ1d.out.tr hlt ht7)
         have HOK7:=Lib.hid hok7
         have HS7:=Lib.hid hs7
         have HTX7:=Lib.hid (TrU.weaken (B':=W1.heap.size) (Nat.le_refl _) htr7)
         have hwz7:W1.heap.size≤w7.heap.size:=ht7.size
         have HR7:=Lib.hid (RowT.tr HR1.out.dr ht7 (by omega))
         have hbo7:=HBO1.out.dr.tr ht7 (by omega)
         have t0:=hbo7.cell 0
         have u0:=hbo7.frozen 0
         have hz7:=hbo7.lt
         have hbx7:=HBX1.out.dr.tr ht7 (by omega)
         have t1:=hbx7.cell 0
         have hz70:=hbx7.lt
         simp only [List.getElem?_toArray,List.getElem?_cons_zero] at t0 t1
         refine hK _ _ ?_
         clear hK K
         refine anyS_go (rs:=[4]) (by kernel_rfl) (by simp) ?_
         refine allS_consK rfl (fun K hK => ?_) ?_
         ·skip
          go_simp
          refine hK _ _ ?_
          clear hK K
          exact anyS_cast (by kernel_rfl) (HM2 _ _ ⟨w7.heap.size,A7,c7,d7,rfl,HJ7.out.al (.cells #[.int .i64 0,.string ⟨#[]⟩,.int .i64 0,.slice none 0 0,.int .i64 0] 29),HS7.out.alloc (.cells #[.int .i64 0,.string ⟨#[]⟩,.int .i64 0,.slice none 0 0,.int .i64 0] 29),HR7.out.al (.cells #[.int .i64 0,.string ⟨#[]⟩,.int .i64 0,.slice none 0 0,.int .i64 0] 29),HTX7.out.al (.cells #[.int .i64 0,.string ⟨#[]⟩,.int .i64 0,.slice none 0 0,.int .i64 0] 29),Blk.new w7 29 #[.int .i64 0,.string ⟨#[]⟩,.int .i64 0,.slice none 0 0,.int .i64 0],by rw [World.size_alloc];omega,HOK7.out⟩)
         exact allS_nil
        refine allS_consK rfl (fun K hK => ?_) ?_
        ·skip
         go_simp
         refine hK _ _ ?_
         clear hK K
         refine anyS_go (rs:=[2]) (by kernel_rfl) (by simp) ?_
         refine allS_consK rfl (fun K hK => ?_) ?_
         ·skip
          go_simp
          refine (R.expr _ _ _ HS1z.out (LF.out.expr _ _ HM.out)).mono ?_
          rintro e w7 ⟨⟨v7,rfl,hok7,d7,sl7,rfl,htr7⟩,hs7,ht7⟩
          obtain ⟨A7,c7,rfl⟩:=htr7.form
          have HJ7:=Lib.hid (HJ1z.out.tr hlt ht7)
          have HOK7:=Lib.hid hok7
          have HS7:=Lib.hid hs7
          have HTX7:=Lib.hid (TrU.weaken (B':=W1.heap.size) (by show W1.heap.size≤(W1.alloc _).heap.size;rw [World.size_alloc];omega) htr7)
          have hzb7:=Lib.hid ((Blk.new W1 29 #[.int .i64 0,.string ⟨#[]⟩,.int .i64 0,.slice none 0 0,.int .i64 0]).dr.tr ht7 (by omega))
          have hwz7:W1.heap.size≤w7.heap.size:=by have h9:(W1.alloc (.cells #[.int .i64 0,.string ⟨#[]⟩,.int .i64 0,.slice none 0 0,.int .i64 0] 29)).heap.size≤w7.heap.size:=ht7.size;rw [World.size_alloc] at h9;omega
          have HR7:=Lib.hid (RowT.tr (HR1.out.al (.cells #[.int .i64 0,.string ⟨#[]⟩,.int .i64 0,.slice none 0 0,.int .i64 0] 29)).dr ht7 (by omega))
          have hbo7:=(HBO1.out.alloc (.cells #[.int .i64 0,.string ⟨#[]⟩,.int .i64 0,.slice none 0 0,.int .i64 0] 29)).dr.tr ht7 (by omega)
          have t0:=hbo7.cell 0
          have u0:=hbo7.frozen 0
          have hz7:=hbo7.lt
          have hbx7:=(HBX1.out.alloc (.cells #[.int .i64 0,.string ⟨#[]⟩,.int .i64 0,.slice none 0 0,.int .i64 0] 29)).dr.tr ht7 (by omega)
          have t1:=hbx7.cell 0
          have hz70:=hbx7.lt
          simp only [List.getElem?_toArray,List.getElem?_cons_zero] at t0 t1
          refine hK _ _ ?_
          clear hK K
          exact anyS_cast (by kernel_rfl) (HM2 _ _ ⟨W1.heap.size,A7,c7,d7,rfl,HJ7.out,HS7.out,HR7.out,HTX7.out,hzb7.out,hwz7,HOK7.out⟩)
         exact allS_nil
        exact allS_nil
       refine allS_consK rfl (fun K hK => ?_) ?_
       ·skip
        go_simp
        refine hK _ _ ?_
        clear hK K
        refine anyS_go (rs:=[2,3]) (by kernel_rfl) (by simp) ?_
        refine allS_consK rfl (fun K hK => ?_) ?_
        ·skip
         go_simp
         refine (R.expr _ _ _ HS1z.out (LF.out.expr _ _ HM.out)).mono ?_
         rintro e w7 ⟨⟨v7,rfl,hok7,d7,sl7,rfl,htr7⟩,hs7,ht7⟩
         obtain ⟨A7,c7,rfl⟩:=htr7.form
         have HJ7:=Lib.hid (HJ1z.out.tr hlt ht7)
         have HOK7:=Lib.hid hok7
         have HS7:=Lib.hid hs7
         have HTX7:=Lib.hid (TrU.weaken (B':=W1.heap.size) (by show W1.heap.size≤(W1.alloc _).heap.size;rw [World.size_alloc];omega) htr7)
         have hzb7:=Lib.hid ((Blk.new W1 29 #[.int .i64 0,.string ⟨#[]⟩,.int .i64 0,.slice none 0 0,.int .i64 0]).dr.tr ht7 (by omega))
         have hwz7:W1.heap.size≤w7.heap.size:=by have h9:(W1.alloc (.cells #[.int .i64 0,.string ⟨#[]⟩,.int .i64 0,.slice none 0 0,.int .i64 0] 29)).heap.size≤w7.heap.size:=ht7.size;rw [World.size_alloc] at h9;omega
         have HR7:=Lib.hid (RowT.tr (HR1.out.al (.cells #[.int .i64 0,.string ⟨#[]⟩,.int .i64 0,.slice none 0 0,.int .i64 0] 29)).dr ht7 (by omega))
         have hbo7:=(HBO1.out.alloc (.cells #[.int .i64 0,.string ⟨#[]⟩,.int .i64 0,.slice none 0 0,.int .i64 0] 29)).dr.tr ht7 (by omega)
         have t0:=hbo7.cell 0
         have u0:=hbo7.frozen 0
         have hz7:=hbo7.lt
         have hbx7:=(HBX1.out.alloc (.cells #[.int .i64 0,.string ⟨#[]⟩,.int .i64 0,.slice none 0 0,.int .i64 0] 29)).dr.tr ht7 (by omega)
         have t1:=hbx7.cell 0
         have hz70:=hbx7.lt
         simp only [List.getElem?_toArray,List.getElem?_cons_zero] at t0 t1
         refine hK _ _ ?_
         clear hK K
         refine anyS_go (rs:=[3]) (by kernel_rfl) (by simp) ?_
         refine allS_consK rfl (fun K hK => ?_) ?_
         ·skip
          go_simp
          refine hK _ _ ?_
          clear hK K
          exact anyS_cast (by kernel_rfl) (HM2 _ _ ⟨W1.heap.size,A7,c7,d7,rfl,HJ7.out,HS7.out,HR7.out,HTX7.out,hzb7.out,hwz7,HOK7.out⟩)
         exact allS_nil
        refine allS_consK rfl (fun K hK => ?_) ?_
        ·skip
         go_simp
         refine hK _ _ ?_
         clear hK K
         refine anyS_go (rs:=[2]) (by kernel_rfl) (by simp) ?_
         refine allS_consK rfl (fun K hK => ?_) ?_
         ·skip
          go_simp
          refine (R.expr _ _ _ HS1z.out (LF.out.expr _ _ HM.out)).mono ?_
          rintro e w7 ⟨⟨v7,rfl,hok7,d7,sl7,rfl,htr7⟩,hs7,ht7⟩
          obtain ⟨A7,c7,rfl⟩:=htr7.form
          have HJ7:=Lib.hid (HJ1z.out.tr hlt ht7)
          have HOK7:=Lib.hid hok7
          have HS7:=Lib.hid hs7
          have HTX7:=Lib.hid (TrU.weaken (B':=W1.heap.size) (by show W1.heap.size≤(W1.alloc _).heap.size;rw [World.size_alloc];omega) htr7)
          have hzb7:=Lib.hid ((Blk.new W1 29 #[.int .i64 0,.string ⟨#[]⟩,.int .i64 0,.slice none 0 0,.int .i64 0]).dr.tr ht7 (by omega))
          have hwz7:W1.heap.size≤w7.heap.size:=by have h9:(W1.alloc (.cells #[.int .i64 0,.string ⟨#[]⟩,.int .i64 0,.slice none 0 0,.int .i64 0] 29)).heap.size≤w7.heap.size:=ht7.size;rw [World.size_alloc] at h9;omega
          have HR7:=Lib.hid (RowT.tr (HR1.out.al (.cells #[.int .i64 0,.string ⟨#[]⟩,.int .i64 0,.slice none 0 0,.int .i64 0] 29)).dr ht7 (by omega))
          have hbo7:=(HBO1.out.alloc (.cells #[.int .i64 0,.string ⟨#[]⟩,.int .i64 0,.slice none 0 0,.int .i64 0] 29)).dr.tr ht7 (by omega)
          have t0:=hbo7.cell 0
          have u0:=hbo7.frozen 0
          have hz7:=hbo7.lt
          have hbx7:=(HBX1.out.alloc (.cells #[.int .i64 0,.string ⟨#[]⟩,.int .i64 0,.slice none 0 0,.int .i64 0] 29)).dr.tr ht7 (by omega)
          have t1:=hbx7.cell 0
          have hz70:=hbx7.lt
          simp only [List.getElem?_toArray,List.getElem?_cons_zero] at t0 t1
          refine hK _ _ ?_
          clear hK K
          exact anyS_cast (by kernel_rfl) (HM2 _ _ ⟨W1.heap.size,A7,c7,d7,rfl,HJ7.out,HS7.out,HR7.out,HTX7.out,hzb7.out,hwz7,HOK7.out⟩)
         exact allS_nil
        exact allS_nil
       exact allS_nil
      refine allS_consK rfl (fun K hK => ?_) ?_
      ·skip
       go_simp
       refine (R.expr _ _ _ HS1d.out (LF.out.expr _ _ HM.out)).mono ?_
       rintro e w7 ⟨⟨v7,rfl,hok7,d7,sl7,rfl,htr7⟩,hs7,ht7⟩
       obtain ⟨A7,c7,rfl⟩:=htr7.form
       have HJ7:=Lib.hid (HJ1d.out.tr hlt ht7)
       have HOK7:=Lib.hid hok7
       have HS7:=Lib.hid hs7
       have HTX7:=Lib.hid (TrU.weaken (B':=W1.heap.size) (Nat.le_refl _) htr7)
       have hwz7:W1.heap.size≤w7.heap.size:=ht7.size
       have HR7:=Lib.hid (RowT.tr HR1.out.dr ht7 (by omega))
       have hbo7:=HBO1.out.dr.tr ht7 (by omega)
       have t0:=hbo7.cell 0
       have u0:=hbo7.frozen 0
       have hz7:=hbo7.lt
       have hbx7:=HBX1.out.dr.tr ht7 (by omega)
       have t1:=hbx7.cell 0
       have hz70:=hbx7.lt
       simp only [List.getElem?_toArray,List.getElem?_cons_zero] at t0 t1
       refine hK _ _ ?_
       clear hK K
       refine anyS_go (rs:=[0,4]) (by kernel_rfl) (by simp) ?_
       refine allS_consK rfl (fun K hK => ?_) ?_
       ·skip
        go_simp
        refine hK _ _ ?_
        clear hK K
        refine anyS_go (rs:=[3,4]) (by kernel_rfl) (by simp) ?_
        refine allS_consK rfl (fun K hK => ?_) ?_
        ·skip
         go_simp
         refine hK _ _ ?_
         clear hK K
         refine anyS_go (rs:=[4]) (by kernel_rfl) (by simp) ?_
         refine allS_consK rfl (fun K hK => ?_) ?_
         ·skip
          go_simp
          refine hK _ _ ?_
          clear hK K
          exact anyS_cast (by kernel_rfl) (HM2 _ _ ⟨w7.heap.size,A7,c7,d7,rfl,HJ7.out.al (.cells #[.int .i64 0,.string ⟨#[]⟩,.int .i64 0,.slice none 0 0,.int .i64 0] 29),HS7.out.alloc (.cells #[.int .i64 0,.string ⟨#[]⟩,.int .i64 0,.slice none 0 0,.int .i64 0] 29),HR7.out.al (.cells #[.int .i64 0,.string ⟨#[]⟩,.int .i64 0,.slice none 0 0,.int .i64 0] 29),HTX7.out.al (.cells #[.int .i64 0,.string ⟨#[]⟩,.int .i64 0,.slice none 0 0,.int .i64 0] 29),Blk.new w7 29 #[.int .i64 0,.string ⟨#[]⟩,.int .i64 0,.slice none 0 0,.int .i64 0],by rw [World.size_alloc];omega,HOK7.out⟩)
         exact allS_nil
        refine allS_consK rfl (fun K hK => ?_) ?_
        ·skip
         go_simp
         refine hK _ _ ?_
         clear hK K
         refine anyS_go (rs:=[3]) (by kernel_rfl) (by simp) ?_
         refine allS_consK rfl (fun K hK => ?_) ?_
         ·skip
          go_simp
          refine hK _ _ ?_
          clear hK K
          exact anyS_cast (by kernel_rfl) (HM2 _ _ ⟨w7.heap.size,A7,c7,d7,rfl,HJ7.out.al (.cells #[.int .i64 0,.string ⟨#[]⟩,.int .i64 0,.slice none 0 0,.int .i64 0] 29),HS7.out.alloc (.cells #[.int .i64 0,.string ⟨#[]⟩,.int .i64 0,.slice none 0 0,.int .i64 0] 29),HR7.out.al (.cells #[.int .i64 0,.string ⟨#[]⟩,.int .i64 0,.slice none 0 0,.int .i64 0] 29),HTX7.out.al (.cells #[.int .i64 0,.string ⟨#[]⟩,.int .i64 0,.slice none 0 0,.int .i64 0] 29),Blk.new w7 29 #[.int .i64 0,.string ⟨#[]⟩,.int .i64 0,.slice none 0 0,.int .i64 0],by rw [World.size_alloc];omega,HOK7.out⟩)
         exact allS_nil
        exact allS_nil
       refine allS_consK rfl (fun K hK => ?_) ?_
       ·skip
        go_simp
        refine hK _ _ ?_
        clear hK K
        refine anyS_go (rs:=[0]) (by kernel_rfl) (by simp) ?_
        refine allS_consK rfl (fun K hK => ?_) ?_
        ·skip
         go_simp
         refine hK _ _ ?_
         clear hK K
         refine anyS_go (rs:=[3]) (by kernel_rfl) (by simp) ?_
         refine allS_consK rfl (fun K hK => ?_) ?_
         ·skip
          go_simp
          refine hK _ _ ?_
          clear hK K
          exact anyS_cast (by kernel_rfl) (HM2 _ _ ⟨w7.heap.size,A7,c7,d7,rfl,HJ7.out.al (.cells #[.int .i64 0,.string ⟨#[]⟩,.int .i64 0,.slice none 0 0,.int .i64 0] 29),HS7.out.alloc (.cells #[.int .i64 0,.string ⟨#[]⟩,.int .i64 0,.slice none 0 0,.int .i64 0] 29),HR7.out.al (.cells #[.int .i64 0,.string ⟨#[]⟩,.int .i64 0,.slice none 0 0,.int .i64 0] 29),HTX7.out.al (.cells #[.int .i64 0,.string ⟨#[]⟩,.int .i64 0,.slice none 0 0,.int .i64 0] 29),Blk.new w7 29 #[.int .i64 0,.string ⟨#[]⟩,.int .i64 0,.slice none 0 0,.int .i64 0],by rw [World.size_alloc];omega,HOK7.out⟩)
         exact allS_nil
        exact allS_nil
       exact allS_nil
      refine allS_consK rfl (fun K hK => ?_) ?_
      ·skip
       go_simp
       refine hK _ _ ?_
       clear hK K
       refine anyS_go (rs:=[0,2]) (by kernel_rfl) (by simp) ?_
       refine allS_consK rfl (fun K hK => ?_) ?_
       ·skip
        go_simp
        refine hK _ _ ?_
        clear hK K
        refine anyS_go (rs:=[2,3]) (by kernel_rfl) (by simp) ?_
        refine allS_consK rfl (fun K hK => ?_) ?_
        ·skip
         go_simp
         refine (R.expr _ _ _ HS1z.out (LF.out.expr _ _ HM.out)).mono ?_
         rintro e w7 ⟨⟨v7,rfl,hok7,d7,sl7,rfl,htr7⟩,hs7,ht7⟩
         obtain ⟨A7,c7,rfl⟩:=htr7.form
         have HJ7:=Lib.hid (HJ1z.out.tr hlt ht7)
         have HOK7:=Lib.hid hok7
         have HS7:=Lib.hid hs7
         have HTX7:=Lib.hid (TrU.weaken (B':=W1.heap.size) (by show W1.heap.size≤(W1.alloc _).heap.size;rw [World.size_alloc];omega) htr7)
         have hzb7:=Lib.hid ((Blk.new W1 29 #[.int .i64 0,.string ⟨#[]⟩,.int .i64 0,.slice none 0 0,.int .i64 0]).dr.tr ht7 (by omega))
         have hwz7:W1.heap.size≤w7.heap.size:=by have h9:(W1.alloc (.cells #[.int .i64 0,.string ⟨#[]⟩,.int .i64 0,.slice none 0 0,.int .i64 0] 29)).heap.size≤w7.heap.size:=ht7.size;rw [World.size_alloc] at h9;omega
         have HR7:=Lib.hid (RowT.tr (HR1.out.al (.cells #[.int .i64 0,.string ⟨#[]⟩,.int .i64 0,.slice none 0 0,.int .i64 0] 29)).dr ht7 (by omega))
         have hbo7:=(HBO1.out.alloc (.cells #[.int .i64 0,.string ⟨#[]⟩,.int .i64 0,.slice none 0 0,.int .i64 0] 29)).dr.tr ht7 (by omega)
         have t0:=hbo7.cell 0
         have u0:=hbo7.frozen 0
         have hz7:=hbo7.lt
         have hbx7:=(HBX1.out.alloc (.cells #[.int .i64 0,.string ⟨#[]⟩,.int .i64 0,.slice none 0 0,.int .i64 0] 29)).dr.tr ht7 (by omega)
         have t1:=hbx7.cell 0
         have hz70:=hbx7.lt
         simp only [List.getElem?_toArray,List.getElem?_cons_zero] at t0 t1
         refine hK _ _ ?_
         clear hK K
         refine anyS_go (rs:=[3]) (by kernel_rfl) (by simp) ?_
         refine allS_consK rfl (fun K hK => ?_) ?_
         ·skip
          go_simp
          refine hK _ _ ?_
          clear hK K
          exact anyS_cast (by kernel_rfl) (HM2 _ _ ⟨W1.heap.size,A7,c7,d7,rfl,HJ7.out,HS7.out,HR7.out,HTX7.out,hzb7.out,hwz7,HOK7.out⟩)
         exact allS_nil
        refine allS_consK rfl (fun K hK => ?_) ?_
        ·skip
         go_simp
         refine hK _ _ ?_
         clear hK K
         refine anyS_go (rs:=[2]) (by kernel_rfl) (by simp) ?_
         refine allS_consK rfl (fun K hK => ?_) ?_
         ·skip
          go_simp
          refine (R.expr _ _ _ HS1z.out (LF.out.expr _ _ HM.out)).mono ?_
          rintro e w7 ⟨⟨v7,rfl,hok7,d7,sl7,rfl,htr7⟩,hs7,ht7⟩
          obtain ⟨A7,c7,rfl⟩:=htr7.form
          have HJ7:=Lib.hid (HJ1z.out.tr hlt ht7)
          have HOK7:=Lib.hid hok7
          have HS7:=Lib.hid hs7
          have HTX7:=Lib.hid (TrU.weaken (B':=W1.heap.size) (by show W1.heap.size≤(W1.alloc _).heap.size;rw [World.size_alloc];omega) htr7)
          have hzb7:=Lib.hid ((Blk.new W1 29 #[.int .i64 0,.string ⟨#[]⟩,.int .i64 0,.slice none 0 0,.int .i64 0]).dr.tr ht7 (by omega))
          have hwz7:W1.heap.size≤w7.heap.size:=by have h9:(W1.alloc (.cells #[.int .i64 0,.string ⟨#[]⟩,.int .i64 0,.slice none 0 0,.int .i64 0] 29)).heap.size≤w7.heap.size:=ht7.size;rw [World.size_alloc] at h9;omega
          have HR7:=Lib.hid (RowT.tr (HR1.out.al (.cells #[.int .i64 0,.string ⟨#[]⟩,.int .i64 0,.slice none 0 0,.int .i64 0] 29)).dr ht7 (by omega))
          have hbo7:=(HBO1.out.alloc (.cells #[.int .i64 0,.string ⟨#[]⟩,.int .i64 0,.slice none 0 0,.int .i64 0] 29)).dr.tr ht7 (by omega)
          have t0:=hbo7.cell 0
          have u0:=hbo7.frozen 0
          have hz7:=hbo7.lt
          have hbx7:=(HBX1.out.alloc (.cells #[.int .i64 0,.string ⟨#[]⟩,.int .i64 0,.slice none 0 0,.int .i64 0] 29)).dr.tr ht7 (by omega)
          have t1:=hbx7.cell 0
          have hz70:=hbx7.lt
          simp only [List.getElem?_toArray,List.getElem?_cons_zero] at t0 t1
          refine hK _ _ ?_
          clear hK K
          exact anyS_cast (by kernel_rfl) (HM2 _ _ ⟨W1.heap.size,A7,c7,d7,rfl,HJ7.out,HS7.out,HR7.out,HTX7.out,hzb7.out,hwz7,HOK7.out⟩)
         exact allS_nil
        exact allS_nil
       refine allS_consK rfl (fun K hK => ?_) ?_
       ·skip
        go_simp
        refine (R.expr _ _ _ HS1z.out (LF.out.expr _ _ HM.out)).mono ?_
        rintro e w7 ⟨⟨v7,rfl,hok7,d7,sl7,rfl,htr7⟩,hs7,ht7⟩
        obtain ⟨A7,c7,rfl⟩:=htr7.form
        have HJ7:=Lib.hid (HJ1z.out.tr hlt ht7)
        have HOK7:=Lib.hid hok7
        have HS7:=Lib.hid hs7
        have HTX7:=Lib.hid (TrU.weaken (B':=W1.heap.size) (by show W1.heap.size≤(W1.alloc _).heap.size;rw [World.size_alloc];omega) htr7)
        have hzb7:=Lib.hid ((Blk.new W1 29 #[.int .i64 0,.string ⟨#[]⟩,.int .i64 0,.slice none 0 0,.int .i64 0]).dr.tr ht7 (by omega))
        have hwz7:W1.heap.size≤w7.heap.size:=by have h9:(W1.alloc (.cells #[.int .i64 0,.string ⟨#[]⟩,.int .i64 0,.slice none 0 0,.int .i64 0] 29)).heap.size≤w7.heap.size:=ht7.size;rw [World.size_alloc] at h9;omega
        have HR7:=Lib.hid (RowT.tr (HR1.out.al (.cells #[.int .i64 0,.string ⟨#[]⟩,.int .i64 0,.slice none 0 0,.int .i64 0] 29)).dr ht7 (by omega))
        have hbo7:=(HBO1.out.alloc (.cells #[.int .i64 0,.string ⟨#[]⟩,.int .i64 0,.slice none 0 0,.int .i64 0] 29)).dr.tr ht7 (by omega)
        have t0:=hbo7.cell 0
        have u0:=hbo7.frozen 0
        have hz7:=hbo7.lt
        have hbx7:=(HBX1.out.alloc (.cells #[.int .i64 0,.string ⟨#[]⟩,.int .i64 0,.slice none 0 0,.int .i64 0] 29)).dr.tr ht7 (by omega)
        have t1:=hbx7.cell 0
        have hz70:=hbx7.lt
        simp only [List.getElem?_toArray,List.getElem?_cons_zero] at t0 t1
        refine hK _ _ ?_
        clear hK K
        refine anyS_go (rs:=[0]) (by kernel_rfl) (by simp) ?_
        refine allS_consK rfl (fun K hK => ?_) ?_
        ·skip
         go_simp
         refine hK _ _ ?_
         clear hK K
         refine anyS_go (rs:=[3]) (by kernel_rfl) (by simp) ?_
         refine allS_consK rfl (fun K hK => ?_) ?_
         ·skip
          go_simp
          refine hK _ _ ?_
          clear hK K
          exact anyS_cast (by kernel_rfl) (HM2 _ _ ⟨W1.heap.size,A7,c7,d7,rfl,HJ7.out,HS7.out,HR7.out,HTX7.out,hzb7.out,hwz7,HOK7.out⟩)
         exact allS_nil
        exact allS_nil
       exact allS_nil
      exact allS_nil
     refine allS_consK rfl (fun K hK => ?_) ?_
     ·skip
      go_simp
      refine hK _ _ ?_
      clear hK K
      refine anyS_go (rs:=[0,1]) (by kernel_rfl) (by simp) ?_
      refine allS_consK rfl (fun K hK => ?_) ?_
      ·skip
       go_simp
       refine hK _ _ ?_
       clear hK K
       refine anyS_go (rs:=[1,3]) (by kernel_rfl) (by simp) ?_
       refine allS_consK rfl (fun K hK => ?_) ?_
       ·skip
        go_simp
        refine hK _ _ ?_
        clear hK K
        refine anyS_go (rs:=[2,3]) (by kernel_rfl) (by simp) ?_
        refine allS_consK rfl (fun K hK => ?_) ?_
        ·skip
         go_simp
         refine (R.expr _ _ _ HS1z.out (LF.out.expr _ _ HM.out)).mono ?_
         rintro e w7 ⟨⟨v7,rfl,hok7,d7,sl7,rfl,htr7⟩,hs7,ht7⟩
         obtain ⟨A7,c7,rfl⟩:=htr7.form
         have HJ7:=Lib.hid (HJ1z.out.tr hlt ht7)
         have HOK7:=Lib.hid hok7
         have HS7:=Lib.hid hs7
         have HTX7:=Lib.hid (TrU.weaken (B':=W1.heap.size) (by show W1.heap.size≤(W1.alloc _).heap.size;rw [World.size_alloc];omega) htr7)
         have hzb7:=Lib.hid ((Blk.new W1 29 #[.int .i64 0,.string ⟨#[]⟩,.int .i64 0,.slice none 0 0,.int .i64 0]).dr.tr ht7 (by omega))
         have hwz7:W1.heap.size≤w7.heap.size:=by have h9:(W1.alloc (.cells #[.int .i64 0,.string ⟨#[]⟩,.int .i64 0,.slice none 0 0,.int .i64 0] 29)).heap.size≤w7.heap.size:=ht7.size;rw [World.size_alloc] at h9;omega
         have HR7:=Lib.hid (RowT.tr (HR1.out.al (.cells #[.int .i64 0,.string ⟨#[]⟩,.int .i64 0,.slice none 0 0,.int .i64 0] 29)).dr ht7 (by omega))
         have hbo7:=(HBO1.out.alloc (.cells #[.int .i64 0,.string ⟨#[]⟩,.int .i64 0,.slice none 0 0,.int .i64 0] 29)).dr.tr ht7 (by omega)
         have t0:=hbo7.cell 0
         have u0:=hbo7.frozen 0
         have hz7:=hbo7.lt
         have hbx7:=(HBX1.out.alloc (.cells #[.int .i64 0,.string ⟨#[]⟩,.int .i64 0,.slice none 0 0,.int .i64 0] 29)).dr.tr ht7 (by omega)
         have t1:=hbx7.cell 0
         have hz70:=hbx7.lt
         simp only [List.getElem?_toArray,List.getElem?_cons_zero] at t0 t1
         refine hK _ _ ?_
         clear hK K
         refine anyS_go (rs:=[3]) (by kernel_rfl) (by simp) ?_
         refine allS_consK rfl (fun K hK => ?_) ?_
         ·skip
          go_simp
          refine hK _ _ ?_
          clear hK K
          exact anyS_cast (by kernel_rfl) (HM2 _ _ ⟨W1.heap.size,A7,c7,d7,rfl,HJ7.out,HS7.out,HR7.out,HTX7.out,hzb7.out,hwz7,HOK7.out⟩)
         exact allS_nil
        refine allS_consK rfl (fun K hK => ?_) ?_
        ·skip
         go_simp
         refine hK _ _ ?_
         clear hK K
         refine anyS_go (rs:=[2]) (by kernel_rfl) (by simp) ?_
         refine allS_consK rfl (fun K hK => ?_) ?_
         ·skip
          go_simp
          refine (R.expr _ _ _ HS1z.out (LF.out.expr _ _ HM.out)).mono ?_
          rintro e w7 ⟨⟨v7,rfl,hok7,d7,sl7,rfl,htr7⟩,hs7,ht7⟩
          obtain ⟨A7,c7,rfl⟩:=htr7.form
          have HJ7:=Lib.hid (HJ1z.out.tr hlt ht7)
          have HOK7:=Lib.hid hok7
          have HS7:=Lib.hid hs7
          have HTX7:=Lib.hid (TrU.weaken (B':=W1.heap.size) (by show W1.heap.size≤(W1.alloc _).heap.size;rw [World.size_alloc];omega) htr7)
          have hzb7:=Lib.hid ((Blk.new W1 29 #[.int .i64 0,.string ⟨#[]⟩,.int .i64 0,.slice none 0 0,.int .i64 0]).dr.tr ht7 (by omega))
          have hwz7:W1.heap.size≤w7.heap.size:=by have h9:(W1.alloc (.cells #[.int .i64 0,.string ⟨#[]⟩,.int .i64 0,.slice none 0 0,.int .i64 0] 29)).heap.size≤w7.heap.size:=ht7.size;rw [World.size_alloc] at h9;omega
          have HR7:=Lib.hid (RowT.tr (HR1.out.al (.cells #[.int .i64 0,.string ⟨#[]⟩,.int .i64 0,.slice none 0 0,.int .i64 0] 29)).dr ht7 (by omega))
          have hbo7:=(HBO1.out.alloc (.cells #[.int .i64 0,.string ⟨#[]⟩,.int .i64 0,.slice none 0 0,.int .i64 0] 29)).dr.tr ht7 (by omega)
          have t0:=hbo7.cell 0
          have u0:=hbo7.frozen 0
          have hz7:=hbo7.lt
          have hbx7:=(HBX1.out.alloc (.cells #[.int .i64 0,.string ⟨#[]⟩,.int .i64 0,.slice none 0 0,.int .i64 0] 29)).dr.tr ht7 (by omega)
          have t1:=hbx7.cell 0
          have hz70:=hbx7.lt
          simp only [List.getElem?_toArray,List.getElem?_cons_zero] at t0 t1
          refine hK _ _ ?_
          clear hK K
          exact anyS_cast (by kernel_rfl) (HM2 _ _ ⟨W1.heap.size,A7,c7,d7,rfl,HJ7.out,HS7.out,HR7.out,HTX7.out,hzb7.out,hwz7,HOK7.out⟩)
         exact allS_nil
        exact allS_nil
       refine allS_consK rfl (fun K hK => ?_) ?_
       ·skip
        go_simp
        refine hK _ _ ?_
        clear hK K
        refine anyS_go (rs:=[1]) (by kernel_rfl) (by simp) ?_
        refine allS_consK rfl (fun K hK => ?_) ?_
        ·skip
         go_simp
         refine hK _ _ ?_
         clear hK K
         refine anyS_go (rs:=[2]) (by kernel_rfl) (by simp) ?_
         refine allS_consK rfl (fun K hK => ?_) ?_
         ·skip
          go_simp
          refine (R.expr _ _ _ HS1z.out (LF.out.expr _ _ HM.out)).mono ?_
          rintro e w7 ⟨⟨v7,rfl,hok7,d7,sl7,rfl,htr7⟩,hs7,ht7⟩
          obtain ⟨A7,c7,rfl⟩:=htr7.form
          have HJ7:=Lib.hid (HJ1z.out.tr hlt ht7)
          have HOK7:=Lib.hid hok7
          have HS7:=Lib.hid hs7
          have HTX7:=Lib.hid (TrU.weaken (B':=W1.heap.size) (by show W1.heap.size≤(W1.alloc _).heap.size;rw [World.size_alloc];omega) htr7)
          have hzb7:=Lib.hid ((Blk.new W1 29 #[.int .i64 0,.string ⟨#[]⟩,.int .i64 0,.slice none 0 0,.int .i64 0]).dr.tr ht7 (by omega))
          have hwz7:W1.heap.size≤w7.heap.size:=by have h9:(W1.alloc (.cells #[.int .i64 0,.string ⟨#[]⟩,.int .i64 0,.slice none 0 0,.int .i64 0] 29)).heap.size≤w7.heap.size:=ht7.size;rw [World.size_alloc] at h9;omega
          have HR7:=Lib.hid (RowT.tr (HR1.out.al (.cells #[.int .i64 0,.string ⟨#[]⟩,.int .i64 0,.slice none 0 0,.int .i64 0] 29)).dr ht7 (by omega))
          have hbo7:=(HBO1.out.alloc (.cells #[.int .i64 0,.string ⟨#[]⟩,.int .i64 0,.slice none 0 0,.int .i64 0] 29)).dr.tr ht7 (by omega)
          have t0:=hbo7.cell 0
          have u0:=hbo7.frozen 0
          have hz7:=hbo7.lt
          have hbx7:=(HBX1.out.alloc (.cells #[.int .i64 0,.string ⟨#[]⟩,.int .i64 0,.slice none 0 0,.int .i64 0] 29)).dr.tr ht7 (by omega)
          have t1:=hbx7.cell 0
          have hz70:=hbx7.lt
          simp only [List.getElem?_toArray,List.getElem?_cons_zero] at t0 t1
          refine hK _ _ ?_
          clear hK K
          exact anyS_cast (by kernel_rfl) (HM2 _ _ ⟨W1.heap.size,A7,c7,d7,rfl,HJ7.out,HS7.out,HR7.out,HTX7.out,hzb7.out,hwz7,HOK7.out⟩)
         exact allS_nil
        exact allS_nil
       exact allS_nil
      refine allS_consK rfl (fun K hK => ?_) ?_
      ·skip
       go_simp
       refine hK _ _ ?_
       clear hK K
       refine anyS_go (rs:=[0,2]) (by kernel_rfl) (by simp) ?_
       refine allS_consK rfl (fun K hK => ?_) ?_
       ·skip
        go_simp
        refine hK _ _ ?_
        clear hK K
        refine anyS_go (rs:=[2,3]) (by kernel_rfl) (by simp) ?_
        refine allS_consK rfl (fun K hK => ?_) ?_
        ·skip
         go_simp
         refine (R.expr _ _ _ HS1z.out (LF.out.expr _ _ HM.out)).mono ?_
         rintro e w7 ⟨⟨v7,rfl,hok7,d7,sl7,rfl,htr7⟩,hs7,ht7⟩
         obtain ⟨A7,c7,rfl⟩:=htr7.form
         have HJ7:=Lib.hid (HJ1z.out.tr hlt ht7)
         have HOK7:=Lib.hid hok7
         have HS7:=Lib.hid hs7
         have HTX7:=Lib.hid (TrU.weaken (B':=W1.heap.size) (by show W1.heap.size≤(W1.alloc _).heap.size;rw [World.size_alloc];omega) htr7)
         have hzb7:=Lib.hid ((Blk.new W1 29 #[.int .i64 0,.string ⟨#[]⟩,.int .i64 0,.slice none 0 0,.int .i64 0]).dr.tr ht7 (by omega))
         have hwz7:W1.heap.size≤w7.heap.size:=by have h9:(W1.alloc (.cells #[.int .i64 0,.string ⟨#[]⟩,.int .i64 0,.slice none 0 0,.int .i64 0] 29)).heap.size≤w7.heap.size:=ht7.size;rw [World.size_alloc] at h9;omega
         have HR7:=Lib.hid (RowT.tr (HR1.out.al (.cells #[.int .i64 0,.string ⟨#[]⟩,.int .i64 0,.slice none 0 0,.int .i64 0] 29)).dr ht7 (by omega))
         have hbo7:=(HBO1.out.alloc (.cells #[.int .i64 0,.string ⟨#[]⟩,.int .i64 0,.slice none 0 0,.int .i64 0] 29)).dr.tr ht7 (by omega)
         have t0:=hbo7.cell 0
         have u0:=hbo7.frozen 0
         have hz7:=hbo7.lt
         have hbx7:=(HBX1.out.alloc (.cells #[.int .i64 0,.string ⟨#[]⟩,.int .i64 0,.slice none 0 0,.int .i64 0] 29)).dr.tr ht7 (by omega)
         have t1:=hbx7.cell 0
         have hz70:=hbx7.lt
         simp only [List.getElem?_toArray,List.getElem?_cons_zero] at t0 t1
         refine hK _ _ ?_
         clear hK K
         refine anyS_go (rs:=[3]) (by kernel_rfl) (by simp) ?_
         refine allS_consK rfl (fun K hK => ?_) ?_
         ·skip
          go_simp
          refine hK _ _ ?_
          clear hK K
          exact anyS_cast (by kernel_rfl) (HM2 _ _ ⟨W1.heap.size,A7,c7,d7,rfl,HJ7.out,HS7.out,HR7.out,HTX7.out,hzb7.out,hwz7,HOK7.out⟩)
         exact allS_nil
        refine allS_consK rfl (fun K hK => ?_) ?_
        ·skip
         go_simp
         refine hK _ _ ?_
         clear hK K
         refine anyS_go (rs:=[2]) (by kernel_rfl) (by simp) ?_
         refine allS_consK rfl (fun K hK => ?_) ?_
         ·skip
          go_simp
          refine (R.expr _ _ _ HS1z.out (LF.out.expr _ _ HM.out)).mono ?_
          rintro e w7 ⟨⟨v7,rfl,hok7,d7,sl7,rfl,htr7⟩,hs7,ht7⟩
          obtain ⟨A7,c7,rfl⟩:=htr7.form
          have HJ7:=Lib.hid (HJ1z.out.tr hlt ht7)
          have HOK7:=Lib.hid hok7
          have HS7:=Lib.hid hs7
          have HTX7:=Lib.hid (TrU.weaken (B':=W1.heap.size) (by show W1.heap.size≤(W1.alloc _).heap.size;rw [World.size_alloc];omega) htr7)
          have hzb7:=Lib.hid ((Blk.new W1 29 #[.int .i64 0,.string ⟨#[]⟩,.int .i64 0,.slice none 0 0,.int .i64 0]).dr.tr ht7 (by omega))
          have hwz7:W1.heap.size≤w7.heap.size:=by have h9:(W1.alloc (.cells #[.int .i64 0,.string ⟨#[]⟩,.int .i64 0,.slice none 0 0,.int .i64 0] 29)).heap.size≤w7.heap.size:=ht7.size;rw [World.size_alloc] at h9;omega
          have HR7:=Lib.hid (RowT.tr (HR1.out.al (.cells #[.int .i64 0,.string ⟨#[]⟩,.int .i64 0,.slice none 0 0,.int .i64 0] 29)).dr ht7 (by omega))
          have hbo7:=(HBO1.out.alloc (.cells #[.int .i64 0,.string ⟨#[]⟩,.int .i64 0,.slice none 0 0,.int .i64 0] 29)).dr.tr ht7 (by omega)
          have t0:=hbo7.cell 0
          have u0:=hbo7.frozen 0
          have hz7:=hbo7.lt
          have hbx7:=(HBX1.out.alloc (.cells #[.int .i64 0,.string ⟨#[]⟩,.int .i64 0,.slice none 0 0,.int .i64 0] 29)).dr.tr ht7 (by omega)
          have t1:=hbx7.cell 0
          have hz70:=hbx7.lt
          simp only [List.getElem?_toArray,List.getElem?_cons_zero] at t0 t1
          refine hK _ _ ?_
          clear hK K
          exact anyS_cast (by kernel_rfl) (HM2 _ _ ⟨W1.heap.size,A7,c7,d7,rfl,HJ7.out,HS7.out,HR7.out,HTX7.out,hzb7.out,hwz7,HOK7.out⟩)
         exact allS_nil
        exact allS_nil
       refine allS_consK rfl (fun K hK => ?_) ?_
       ·skip
        go_simp
        refine (R.expr _ _ _ HS1z.out (LF.out.expr _ _ HM.out)).mono ?_
        rintro e w7 ⟨⟨v7,rfl,hok7,d7,sl7,rfl,htr7⟩,hs7,ht7⟩
        obtain ⟨A7,c7,rfl⟩:=htr7.form
        have HJ7:=Lib.hid (HJ1z.out.tr hlt ht7)
        have HOK7:=Lib.hid hok7
        have HS7:=Lib.hid hs7
        have HTX7:=Lib.hid (TrU.weaken (B':=W1.heap.size) (by show W1.heap.size≤(W1.alloc _).heap.size;rw [World.size_alloc];omega) htr7)
        have hzb7:=Lib.hid ((Blk.new W1 29 #[.int .i64 0,.string ⟨#[]⟩,.int .i64 0,.slice none 0 0,.int .i64 0]).dr.tr ht7 (by omega))
        have hwz7:W1.heap.size≤w7.heap.size:=by have h9:(W1.alloc (.cells #[.int .i64 0,.string ⟨#[]⟩,.int .i64 0,.slice none 0 0,.int .i64 0] 29)).heap.size≤w7.heap.size:=ht7.size;rw [World.size_alloc] at h9;omega
        have HR7:=Lib.hid (RowT.tr (HR1.out.al (.cells #[.int .i64 0,.string ⟨#[]⟩,.int .i64 0,.slice none 0 0,.int .i64 0] 29)).dr ht7 (by omega))
        have hbo7:=(HBO1.out.alloc (.cells #[.int .i64 0,.string ⟨#[]⟩,.int .i64 0,.slice none 0 0,.int .i64 0] 29)).dr.tr ht7 (by omega)
        have t0:=hbo7.cell 0
        have u0:=hbo7.frozen 0
        have hz7:=hbo7.lt
        have hbx7:=(HBX1.out.alloc (.cells #[.int .i64 0,.string ⟨#[]⟩,.int .i64 0,.slice none 0 0,.int .i64 0] 29)).dr.tr ht7 (by omega)
        have t1:=hbx7.cell 0
        have hz70:=hbx7.lt
        simp only [List.getElem?_toArray,List.getElem?_cons_zero] at t0 t1
        refine hK _ _ ?_
        clear hK K
        refine anyS_go (rs:=[0]) (by kernel_rfl) (by simp) ?_
        refine allS_consK rfl (fun K hK => ?_) ?_
        ·skip
         go_simp
         refine hK _ _ ?_
         clear hK K
         refine anyS_go (rs:=[3]) (by kernel_rfl) (by simp) ?_
         refine allS_consK rfl (fun K hK => ?_) ?_
         ·skip
          go_simp
          refine hK _ _ ?_
          clear hK K
          exact anyS_cast (by kernel_rfl) (HM2 _ _ ⟨W1.heap.size,A7,c7,d7,rfl,HJ7.out,HS7.out,HR7.out,HTX7.out,hzb7.out,hwz7,HOK7.out⟩)
         exact allS_nil
        exact allS_nil
       exact allS_nil
      exact allS_nil
     exact allS_nil
  ·rintro e W' (⟨rfl,a,q,rfl,h1,h2⟩ | ⟨rfl,c,h1⟩ | ⟨c,rfl,⟨e1,e2⟩,rfl,rfl,h1⟩)
   ·exact ⟨rfl,h1,h2⟩
   ·exact h1.elim
   ·exact ⟨rfl,h1⟩
 ·rintro e W hL
  match y,hL with
  | .error (c,ln),⟨he,h1,h2,h3⟩ =>
   subst he
   refine .inr ⟨_,rfl,?_⟩
   show LeavesInM Fence.wide 5 Tryz.prog Tryz.f172 _ _ _ _ _
   refine ⟨by simp,.inl ⟨_,_,rfl,run_takeDeferred h2,?_⟩⟩
   exact ⟨rfl,TurnR.putD h1⟩
  | .ok (a,q),⟨hv,hj,hs,hla⟩ =>
   refine .inl ⟨hv,hj.dd,.inl ⟨hj.rc,?_⟩⟩
   have hj1:=hj.turned (Rc .exhausted none)
   have hs1:=hs.putO (b:=w.heap.size+1+1+1+1+1) (by omega) (Rc .exhausted none)
   obtain ⟨W1,hW1⟩ : ∃ W1,W.putObj (w.heap.size+1+1+1+1+1) (Rc .exhausted none)=W1:=⟨_,rfl⟩
   rw [hW1] at hj1 hs1 ⊢
   clear hW1 hj hs
   obtain ⟨A,c,hbo,hrow,hnil⟩:=hj1.out
   have b0:=hbo.cell 0
   simp only [List.getElem?_toArray,List.getElem?_cons_zero] at b0
   have HJ1:=Lib.hid hj1
   have HS1':=Lib.hid hs1
   have HROW:=Lib.hid hrow
   have HNIL:=Lib.hid hnil
   clear hj1 hs1 hrow hnil hbo
   refine wpAt_of_wp ?_
   go_wp2
   refine ⟨by simp,.inl ⟨_,_,rfl,run_takeDeferred HJ1.out.dd,?_⟩⟩
   refine ⟨.slice A a.length c,?_,⟨_,rfl,(HROW.out.putD).weaken (by omega),hla,fun e=>by obtain ⟨rfl,rfl⟩:=HNIL.out e;subst e;rfl⟩,HS1'.out.putO (by omega) _,TurnR.putD HJ1.out.tn⟩
   simp [results,Tryz.f172,go_sem]
end
end Go.Proofs.YtjjdmiaonkailaaGreatDoor
