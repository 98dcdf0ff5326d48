/- Walks and plain laws, packed: RdZ, SMap. -/
import Derived.Test.YtjjdmiaonkailaaGreatDoorK25
import Derived.Test.YtjjdmiaonkailaaGreatDoorK36
import Derived.Test.YtjjdmiaonkailaaGreatDoorK01
import Derived.Maps.OwnOps
import Derived.Maps.OwnSet
import Derived.Maps.OwnIn
import Derived.StringKeys
namespace Go.Proofs.YtjjdmiaonkailaaGreatDoor
section
open Go.RowKit Go.Sort
attribute [local go_sem] Oper.semAt_some
theorem alloc4 (w:World) (a b c d:Obj) (k:Nat):((((w.alloc a).alloc b).alloc c).alloc d).heap[k]? =
  if k=w.heap.size then some a else if k=w.heap.size+1 then some b else if k=w.heap.size+1+1 then some c else if k=w.heap.size+1+1+1 then some d else w.heap[k]? := by
 show ((((w.heap.push a).push b).push c).push d)[k]? = _
 simp only [Array.getElem?_push,Array.size_push]
 by_cases h1:k=w.heap.size
 ·subst h1;simp (disch:=omega) only [if_neg]
 by_cases h2:k=w.heap.size+1
 ·subst h2;simp (disch:=omega) only [if_neg]
 by_cases h3:k=w.heap.size+1+1
 ·subst h3;simp (disch:=omega) only [if_neg]
 by_cases h4:k=w.heap.size+1+1+1
 ·subst h4;simp (disch:=omega) only [if_neg]
 simp only [if_neg h1,if_neg h2,if_neg h3,if_neg h4]
set_option maxRecDepth 100000 in
set_option maxHeartbeats 8000000 in
theorem rest_step {rb last f:Nat} (R:AllR rb last f) (w:World) (l:List Tl) (y:Except (Int × Int) (List Tree × List Tl)) (h:St w rb last l) (hy:restS last (fns last f) l=some y) :
  Calls Tryz.prog 161 #[rdP rb] w (PostS rb last w (RowV w.heap.size) y):=by
 have hlt:=h.lt
 have f3:=field_tok3
 have HS0:=Lib.hid ((h.alloc (.cells #[rdP rb] 53)).alloc (.cells #[.slice none 0 0] 27))
 have HT0:=Lib.hid (TurnR.al (alloc_turn w rb (.cells #[rdP rb] 53)) (.cells #[.slice none 0 0] 27))
 have hbx0:=(Blk.new w 53 #[rdP rb]).alloc (.cells #[.slice none 0 0] 27)
 have hbo0:Blk ((w.alloc (.cells #[rdP rb] 53)).alloc (.cells #[.slice none 0 0] 27)) (w.heap.size+1) 27 #[.slice none 0 0]:=by have:=Blk.new (w.alloc (.cells #[rdP rb] 53)) 27 #[.slice none 0 0];rw [World.size_alloc] at this;exact this
 unfold restS at hy
 clear h
 refine calls_of_at Tryz.func161 rfl ?_
 simp only [Tryz.ntmps161,List.size_toArray,List.length_cons,List.length_nil,Nat.reduceAdd,Nat.reduceSub,Array.replicate_succ,Array.replicate_zero,List.push_toArray,List.append_toArray,List.nil_append,List.cons_append]
 refine wpAt_seq (wpAt_of_wp ?_)
 go_wp2
 refine wpAt_seq (wpAt_of_wp ?_)
 go_wp2
 refine wpAt_seq (wpAt_of_wp ?_)
 rcases bind_some hy with ⟨⟨c,ln⟩,h1,rfl⟩ | ⟨_,r1,h1,h2⟩
 ·have HM:=Lib.hid h1
  clear h1 hy
  go_wp2_with fail
  refine (must1 HS0.out ⟨#[40]⟩ _ ?hn1 _ HM.out).mono ?_
  case hn1=>simp
  rintro e w2 ⟨rfl,ht⟩
  exact ⟨rfl,TurnR.trans HT0.out ht⟩
 have HM:=Lib.hid h1
 clear h1 hy
 go_wp2_with fail
 refine (must1 HS0.out ⟨#[40]⟩ _ ?hn2 _ HM.out).mono ?_
 case hn2=>simp
 rintro e w2 ⟨⟨v2,rfl,-⟩,hs,ht⟩
 have HS2:=Lib.hid hs
 have HT2:=Lib.hid (TurnR.trans HT0.out ht)
 have hbx2:=hbx0.tr ht (by omega)
 have hbo2:=hbo0.tr ht (by omega)
 obtain ⟨b2,hb2⟩ : ∃ b,b=hbx2.cell 0:=⟨_,rfl⟩
 clear hb2
 have hzz2:=hbo2.lt
 have t2:=hbx2.cell 0
 simp only [List.getElem?_toArray,List.getElem?_cons_zero] at t2
 have HBX2:=Lib.hid hbx2
 have HBO2:=Lib.hid hbo2
 have hlen1:=hs.len
 clear hs ht hbx0 hbo0 hbx2 hbo2 b2 HM
 go_wp2
 refine wpAt_seq (wpAt_seq (wpAt_of_wp ?_))
 go_wp2_with fail
 refine (listed_calls _ rb ⟨#[41]⟩).mono ?_
 rintro e w' ⟨rfl,rfl⟩
 go_wp2
 refine wpAt_block (range_at (gf:=202) (lb:=#[.pointer (some ⟨w2.heap.size,0,none⟩),.pointer (some ⟨w2.heap.size+1,0,none⟩)]) (by simp [Act.eval]) (enters_of Tryz.func202 (by kernel_rfl) rfl) ?_)
 intro Rc hR
 simp only [World.size_alloc] at hR ⊢
 obtain ⟨B,hB⟩ : ∃ B,w2.heap.size=B:=⟨_,rfl⟩
 have hal : ∀ k,((((w2.alloc (.cells #[rdP rb] 53)).alloc (.cells #[.string ⟨#[41]⟩] 9)).alloc (.deferred (some []))).alloc (Rc .ready none)).heap[k]? =
   if k=w2.heap.size then some (.cells #[rdP rb] 53) else if k=w2.heap.size+1 then some (.cells #[.string ⟨#[41]⟩] 9) else if k=w2.heap.size+1+1 then some (.deferred (some [])) else if k=w2.heap.size+1+1+1 then some (Rc .ready none) else w2.heap[k]? := fun k=>alloc4 w2 _ _ _ _ k
 have HJ0:Hid (RstJ w B rb ⟨#[41]⟩ (Rc .ready none) [] ((((w2.alloc (.cells #[rdP rb] 53)).alloc (.cells #[.string ⟨#[41]⟩] 9)).alloc (.deferred (some []))).alloc (Rc .ready none))):=Lib.hid (by
  subst hB
  refine ⟨hzz2,?_,?_,?_,⟨none,0,?_,RowT.nil⟩,?_,?_,?_⟩
  ·rw [hal,if_neg (by omega),if_neg (by omega),if_neg (by omega),if_pos rfl]
  ·rw [hal,if_neg (by omega),if_neg (by omega),if_pos rfl]
  ·exact (((HBX2.out.alloc _).alloc _).alloc _).alloc _
  ·exact (((HBO2.out.alloc _).alloc _).alloc _).alloc _
  ·show _=_
   rw [hal,if_pos rfl]
  ·show _=_
   rw [hal,if_neg (by omega),if_pos rfl]
  ·exact TurnR.al (TurnR.al (TurnR.al (TurnR.al HT2.out _) _) _) _)
 have HS1:=Lib.hid ((((HS2.out.alloc (.cells #[rdP rb] 53)).alloc (.cells #[.string ⟨#[41]⟩] 9)).alloc (.deferred (some []))).alloc (Rc .ready none))
 rw [hB] at hR ⊢
 clear hal HBX2 HBO2 HS2 HT2 HS0 HT0 t2
 obtain ⟨W0,hW0⟩ : ∃ W0,((((w2.alloc (.cells #[rdP rb] 53)).alloc (.cells #[.string ⟨#[41]⟩] 9)).alloc (.deferred (some []))).alloc (Rc .ready none))=W0:=⟨_,rfl⟩
 rw [hW0] at HJ0 HS1 ⊢
 clear hW0 hB hzz2
 cases hnf:namesF (fns last f) r1 with
 | none=>rw [hnf] at h2;cases h2
 | some yn =>
 rw [hnf] at h2
 have HH2:=Lib.hid h2
 have hyy:(if atF [[41]] r1 then Rd.ok [] r1.tail else nmRec last (f+1) [] r1)=some yn:=by
  have h1:=le_namesF (leFns last f) r1 _ hnf
  exact h1
 clear h2 hnf
 refine (listed1_in 4 (B+1+1+1) B (B+1) ⟨#[41]⟩ (fun acc W=>RstJ w B rb ⟨#[41]⟩ (Rc .ready none) acc W) (fun W=>TurnR rb w W∧W.heap[B+1+1]? = some (.deferred (some []))∧B+1+1<W.heap.size) (nmOne last) (nmRec last)
  (nm_rec last) (fun _ _=>rfl) (nm_len last) (fun a W W' hj t=>hj.tr hlt t) (fun a W hj=>hj.cells hlt) (fun a W W' hj t=>⟨TurnR.trans hj.tn t,(hj.tr hlt t).dd,by have:=(hj.tr hlt t).size;omega⟩) f ?_ _ r1 HJ0.out HS1.out yn hyy).mono ?_
 ·clear hyy HJ0 HS1 HH2
  intro i acc g l' W y1 hg hacc hj hs hone
  have HJ:=Lib.hid hj
  have HS:=Lib.hid hs
  have HONE:=Lib.hid hone
  refine (yield_ofP hR (fun W' => ∃ a q,y1 = .ok (a,q)∧RstJ w B rb ⟨#[41]⟩ (Rc .ready none) a W'∧St W' rb last q) (fun _ _=>False) (fun c W' => ∃ e,y1 = .error e∧c=pan e.1 e.2∧TurnR rb w W'∧W'.heap[B+1+1]? = some (.deferred (some []))∧B+1+1<W'.heap.size) trivial ⟨_,Tryz.func161⟩ hj.rc rfl ?_).mono ?_
  ·clear hR hj hs hone
   gi_wp2
   refine ⟨HJ.out.rc,?_⟩
   have hj1:=HJ.out.turned (Rc .busy none)
   have hs1:=HS.out.putO (b:=B+1+1+1) (by have:=HJ.out.lo;omega) (Rc .busy none)
   obtain ⟨W1,hW1⟩ : ∃ W1,W.putObj (B+1+1+1) (Rc .busy none)=W1:=⟨_,rfl⟩
   rw [hW1] at hj1 hs1 ⊢
   clear hW1 HJ HS
   have hsz1:=hj1.size
   have hlo1:=hj1.lo
   have b1:=hj1.bx0.cell 0
   simp only [List.getElem?_toArray,List.getElem?_cons_zero] at b1
   have HBX1:=Lib.hid hj1.bx0
   have HJ1:=Lib.hid hj1
   have HS1:=Lib.hid hs1
   clear hj1 hs1
   gi_wp2
   refine ⟨trivial,(CallsIn.inRound _ (callsIn_wide.2 (here_calls _ rb last _ HS1.out))).mono ?_⟩
   rintro e w3 ⟨rfl,hb⟩
   unfold tokV
   have ht3:=turn_below (rb:=rb) hb
   have hs3:=HS1.out.below hb
   have hz3:W1.heap.size≤w3.heap.size:=hb.size
   have hbx3:=HBX1.out.tr ht3 (by omega)
   obtain ⟨s,hs0⟩ : ∃ s,s=(hereF last l').line:=⟨_,rfl⟩
   have hbz3:=Blk.new w3 29 #[.int .i64 1,.string ⟨#[]⟩,.int .i64 0,.slice none 0 0,.int .i64 (hereF last l').line]
   have hbx4:=hbx3.alloc (.cells #[.int .i64 1,.string ⟨#[]⟩,.int .i64 0,.slice none 0 0,.int .i64 (hereF last l').line] 29)
   have HS3:=Lib.hid (hs3.alloc (.cells #[.int .i64 1,.string ⟨#[]⟩,.int .i64 0,.slice none 0 0,.int .i64 (hereF last l').line] 29))
   have HT3:=Lib.hid (TurnR.al ht3 (.cells #[.int .i64 1,.string ⟨#[]⟩,.int .i64 0,.slice none 0 0,.int .i64 (hereF last l').line] 29))
   have b3:=hbx3.cell 0
   simp only [List.getElem?_toArray,List.getElem?_cons_zero] at b3
   have HBX4:=Lib.hid hbx4
   have HBZ3:=Lib.hid hbz3
   have hzb0:w.heap.size<w3.heap.size:=hbx3.lt
   clear hb ht3 hs3 b1 hbx3 hbz3 hbx4 s hs0
   gi_wp2
   rcases bind_some (show (nameF last l').bind (fun s r=>Rd.ok (acc++[nd 1 s [] (hereF last l').line]) r)=some y1 from HONE.out) with ⟨⟨ce,ln⟩,h1,hy1⟩ | ⟨s,r,h1,h2⟩
   ·have HM:=Lib.hid h1
    subst hy1
    clear h1 HONE
    refine ⟨trivial,(CallsIn.inRound _ (callsIn_wide.2 (name_calls _ rb last _ HS3.out _ HM.out))).mono ?_⟩
    rintro e w4 ⟨rfl,ht4⟩
    have t5:=TurnR.trans HT3.out ht4
    have hj5:=HJ1.out.tr hlt t5
    exact ⟨rfl,_,rfl,rfl,TurnR.trans HJ1.out.tn t5,hj5.dd,by have:=hj5.size;omega⟩
   have HM:=Lib.hid h1
   have hy1:=some_ok h2
   subst hy1
   clear h1 h2 HONE
   refine ⟨trivial,(CallsIn.inRound _ (callsIn_wide.2 (name_calls _ rb last _ HS3.out _ HM.out))).mono ?_⟩
   rintro e w4 ⟨⟨v4,rfl,rfl⟩,hs4,ht4⟩
   have hbz4:=HBZ3.out.tr ht4 (by omega)
   have hsz4:w3.heap.size<w4.heap.size:=hbz4.lt
   obtain ⟨⟨p0,p1,p2,p3,p4⟩,q0,q1,q2,q3,q4⟩:=hbz4.five
   have hbz5:Blk (w4.setCell ⟨w3.heap.size,1,none⟩ (.string ⟨s.toArray⟩)) w3.heap.size 29 #[.int .i64 1,.string ⟨s.toArray⟩,.int .i64 0,.slice none 0 0,.int .i64 (hereF last l').line]:=by simpa using hbz4.set_ 1 (.string ⟨s.toArray⟩)
   have t5:TurnR rb W1 (w4.setCell ⟨w3.heap.size,1,none⟩ (.string ⟨s.toArray⟩)):=TurnR.set (p:=⟨w3.heap.size,1,none⟩) (TurnR.trans HT3.out ht4) (by show W1.heap.size≤w3.heap.size;omega) _
   have hs5:=hs4.set' (g:=w3.heap.size) (j:=1) (by omega) (.string ⟨s.toArray⟩)
   have HH:=Lib.hid (And.intro (HJ1.out.tr hlt t5) (And.intro hs5 hbz5))
   have HSL:=Lib.hid (name_len HS1.out HM.out)
   clear hbz4 hbz5 t5 hs5 hs4 ht4 HJ1 HBZ3 HBX4 HBX1 HT3 HS3 HM b3
   gi_wp2
   clear p0 p1 p2 p3 p4 q0 q1 q2 q3 q4
   have HH:=HH.out
   generalize w4.setCell ⟨w3.heap.size,1,none⟩ (.string ⟨s.toArray⟩)=w5 at HH ⊢
   obtain ⟨hj5,hs5,hbz5⟩:=HH
   obtain ⟨zb,hzb⟩ : ∃ k,k=w3.heap.size:=⟨_,rfl⟩
   rw [← hzb] at hbz5 ⊢
   obtain ⟨z,hz⟩ : ∃ z,z=nd 1 s [] ((hereF last l').line:Int):=⟨_,rfl⟩
   have HZ:=Lib.hid hz
   have HZL:Hid (z.l=[]):=Lib.hid (by rw [hz];rfl)
   have HOK7:Hid z.ok:=Lib.hid (by rw [hz];exact nd_ok HSL.out (by decide))
   have hbz5:Blk w5 zb 29 #[.int .i64 z.op,.string z.s,.int .i64 z.n,.slice none z.l.length 0,.int .i64 z.line]:=by rw [hz];exact hbz5
   clear hz
   obtain ⟨A1,c1,hbo5,hr5⟩:=hj5.out
   have hsz5:=hj5.size
   have hmo:Tryz.prog.follows .mixedOrders=true:=by kernel_rfl
   have t0:=hbo5.cell 0
   simp only [List.getElem?_toArray,List.getElem?_cons_zero] at t0
   obtain ⟨⟨a0,a1,a2,a3,a4⟩,-⟩:=hbz5.five
   have HJ5:=Lib.hid hj5
   have HS5:=Lib.hid hs5
   have HR5:=Lib.hid hr5
   have HBO5:=Lib.hid hbo5
   have hix:(acc.length:Int)<(acc.length:Int)+1:=by omega
   have hlo0:w.heap.size<w5.heap.size:=by omega
   have hzbl:zb<w5.heap.size:=hbz5.lt
   have hlo1:w.heap.size+1<w5.heap.size:=by omega
   clear hj5 hs5 hr5 hbo5 hbz5 hzb0 hz3 hsz4 hzb
   refine region_round2 hmo (ops_plain (by kernel_rfl)) (f5:=4) #[true,true,true,true,false,false,false,false] (fun a5 w7=>a5={ tmps:=#[(fun i=>a5.tmps.getD i undef) 0,(fun i=>a5.tmps.getD i undef) 1,(fun i=>a5.tmps.getD i undef) 2,.pointer (some ⟨w.heap.size+1,0,none⟩),(fun i=>a5.tmps.getD i undef) 4,(fun i=>a5.tmps.getD i undef) 5,(fun i=>a5.tmps.getD i undef) 6,(fun i=>a5.tmps.getD i undef) 7,(fun i=>a5.tmps.getD i undef) 8,(fun i=>a5.tmps.getD i undef) 9,(fun i=>a5.tmps.getD i undef) 10,(fun i=>a5.tmps.getD i undef) 11,(fun i=>a5.tmps.getD i undef) 12,(fun i=>a5.tmps.getD i undef) 13,(fun i=>a5.tmps.getD i undef) 14,(fun i=>a5.tmps.getD i undef) 15,(fun i=>a5.tmps.getD i undef) 16,(fun i=>a5.tmps.getD i undef) 17,(fun i=>a5.tmps.getD i undef) 18,(fun i=>a5.tmps.getD i undef) 19,.slice A1 acc.length c1,.agg #[.int .i64 z.op,.string z.s,.int .i64 z.n,.slice none z.l.length 0,.int .i64 z.line],.int .i64 acc.length,.slice (some ⟨w5.heap.size,0,none⟩) 1 1,(fun i=>a5.tmps.getD i undef) 24,(fun i=>a5.tmps.getD i undef) 25,(fun i=>a5.tmps.getD i undef) 26,(fun i=>a5.tmps.getD i undef) 27,(fun i=>a5.tmps.getD i undef) 28,(fun i=>a5.tmps.getD i undef) 29,(fun i=>a5.tmps.getD i undef) 30],defers:=[] }∧w7=w5.drew.alloc (.cells #[.int .i64 0,.string ⟨#[]⟩,.int .i64 0,.slice none 0 0,.int .i64 0] 29)) ?_ ?_
   ·rintro a5 w7 ⟨ha5,hw7⟩
    rw [ha5]
    generalize (fun i=>a5.tmps.getD i undef)=fs
    clear ha5
    have HJ7:Hid (RstJ w B rb ⟨#[41]⟩ (Rc .busy none) acc w7):=Lib.hid (by rw [hw7];exact HJ5.out.dr.al _)
    have HS7:Hid (St w7 rb last r):=Lib.hid (by rw [hw7];exact HS5.out.dr.alloc _)
    have HR7:Hid (RowT (B+1+1+1+1) w7 acc (.slice A1 acc.length c1)):=Lib.hid (by rw [hw7];exact HR5.out.dr.al _)
    have hbo7:Blk w7 (w.heap.size+1) 27 #[.slice A1 acc.length c1]:=by rw [hw7];exact HBO5.out.dr.alloc _
    have hzb7:Hid (Blk w7 w5.heap.size 29 #[.int .i64 0,.string ⟨#[]⟩,.int .i64 0,.slice none 0 0,.int .i64 0]):=Lib.hid (by rw [hw7];exact Blk.new w5.drew _ _)
    have hw7z:w5.heap.size<w7.heap.size:=hzb7.out.lt
    have HOWN:Hid (∀ k,(Value.slice A1 acc.length c1).ownBlock=some k→(B+1+1+1+1)≤k∧k<w7.heap.size):=Lib.hid HR7.out.own
    obtain ⟨zb7,hzz⟩ : ∃ k,k=w5.heap.size:=⟨_,rfl⟩
    rw [← hzz] at hzb7 hw7z hsz5 hlo0 hlo1 ⊢
    clear hw7 t0 a0 a1 a2 a3 a4 hzz HJ5 HS5 HR5 HBO5
    have t0:=hbo7.cell 0
    have u0:=hbo7.frozen 0
    simp only [List.getElem?_toArray,List.getElem?_cons_zero] at t0
    refine anyS_go (rs:=[4]) (by kernel_rfl) (by simp) ?_
    refine allS_consK rfl (fun K hK => ?_) ?_
    ·skip
     refine step_append_row (v := .slice A1 acc.length c1) (acc:=acc) (B:=(B+1+1+1+1)) (by rfl) _ _ (by rfl) (by rfl) HR7.out zeroL ⟨zb7,0,none⟩ 1 1 (by rfl) (by rfl) (zero_news (by exact hzb7.out)) zero_ok (by decide) (by simp;omega) (by first | omega | (simp;omega)) ?_
     intro gg cap w8 hrow8 hgrow8 hat8 hlt8
     have hrow8:RowT (B+1+1+1+1) w8 (acc++[zeroT]) (.slice (some ⟨gg,0,none⟩) (acc.length+1) cap):=hrow8
     have hgw:(B+1+1+1+1)≤gg:=by rcases hat8 with h | h;(exact (HOWN.out gg h).1);(first | omega | (simp at h;omega))
     have HS8:=Lib.hid (HS7.out.grown hgrow8 (fun k hk=>by have:=HOWN.out k hk;omega))
     have HTZ8:Hid (TrP (fun k=>(B+1+1+1+1)≤k∧gg≠k) w8 0 z.l (.slice none z.l.length 0)):=Lib.hid (by rw [HZL.out];exact TrP.nil 0 none 0)
     obtain ⟨s8,⟨k0,k1,k2,k3,k4⟩,j0,j1,j2,j3,j4⟩:=RowT.last hrow8 rfl
     have hbo8:=hbo7.grown hgrow8 (fun e=>by have:=HOWN.out _ e.symm;omega)
     have s0:=hbo8.cell 0
     have r0:=hbo8.frozen 0
     simp only [List.getElem?_toArray,List.getElem?_cons_zero] at s0
     have hgo:gg≠w.heap.size+1:=by omega
     have hog:w.heap.size+1≠gg:=by omega
     have HROW8:=Lib.hid hrow8
     have HGR8:=Lib.hid hgrow8
     clear hrow8 hgrow8 hat8 hlt8 t0 u0
     refine hK _ _ ?_
     clear hK K
     refine anyS_go (rs:=[5,7]) (by kernel_rfl) (by simp) ?_
     refine allS_consK rfl (fun K hK => ?_) ?_
     ·skip
      go_simp
      refine hK _ _ ?_
      clear hK K
      refine anyS_go (rs:=[6,7]) (by kernel_rfl) (by simp) ?_
      refine allS_consK rfl (fun K hK => ?_) ?_
      ·skip
       go_simp
       refine hK _ _ ?_
       clear hK K
       refine anyS_go (rs:=[7]) (by kernel_rfl) (by simp) ?_
       refine allS_consK rfl (fun K hK => ?_) ?_
       ·skip
        go_simp
        refine hK _ _ ?_
        clear hK K
        refine anyS_done (by kernel_rfl) ?_ _
        have HQ:=Lib.hid (RstJ.app_a (acc:=acc) (o:=acc.length*5) (o1:=acc.length*5+1) (o2:=acc.length*5+2) (o3:=acc.length*5+3) (o4:=acc.length*5+4) (n:=acc.length+1) hlt HJ7.out HGR8.out (fun k hk=>(HOWN.out k hk).1) hgw HS8.out HROW8.out rfl rfl rfl HOK7.out HTZ8.out rfl rfl rfl rfl)
        have hz:=HZ.out
        subst hz
        exact endR hlt HQ.out.1 HQ.out.2
       exact allS_nil
      refine allS_consK rfl (fun K hK => ?_) ?_
      ·skip
       go_simp
       refine hK _ _ ?_
       clear hK K
       refine anyS_go (rs:=[6]) (by kernel_rfl) (by simp) ?_
       refine allS_consK rfl (fun K hK => ?_) ?_
       ·skip
        go_simp
        refine hK _ _ ?_
        clear hK K
        refine anyS_done (by kernel_rfl) ?_ _
        have HQ:=Lib.hid (RstJ.app_b (acc:=acc) (o:=acc.length*5) (o1:=acc.length*5+1) (o2:=acc.length*5+2) (o3:=acc.length*5+3) (o4:=acc.length*5+4) (n:=acc.length+1) hlt HJ7.out HGR8.out (fun k hk=>(HOWN.out k hk).1) hgw HS8.out HROW8.out rfl rfl rfl HOK7.out HTZ8.out rfl rfl rfl rfl)
        have hz:=HZ.out
        subst hz
        exact endR hlt HQ.out.1 HQ.out.2
       exact allS_nil
      exact allS_nil
     refine allS_consK rfl (fun K hK => ?_) ?_
     ·skip
      go_simp
      refine hK _ _ ?_
      clear hK K
      refine anyS_go (rs:=[5]) (by kernel_rfl) (by simp) ?_
      refine allS_consK rfl (fun K hK => ?_) ?_
      ·skip
       go_simp
       refine hK _ _ ?_
       clear hK K
       refine anyS_go (rs:=[6]) (by kernel_rfl) (by simp) ?_
       refine allS_consK rfl (fun K hK => ?_) ?_
       ·skip
        go_simp
        refine hK _ _ ?_
        clear hK K
        refine anyS_done (by kernel_rfl) ?_ _
        have HQ:=Lib.hid (RstJ.app_b (acc:=acc) (o:=acc.length*5) (o1:=acc.length*5+1) (o2:=acc.length*5+2) (o3:=acc.length*5+3) (o4:=acc.length*5+4) (n:=acc.length+1) hlt HJ7.out HGR8.out (fun k hk=>(HOWN.out k hk).1) hgw HS8.out HROW8.out rfl rfl rfl HOK7.out HTZ8.out rfl rfl rfl rfl)
        have hz:=HZ.out
        subst hz
        exact endR hlt HQ.out.1 HQ.out.2
       exact allS_nil
      exact allS_nil
     exact allS_nil
    exact allS_nil
   ·intro HM2
    refine anyS_go (rs:=[0,1,3]) (by kernel_rfl) (by simp) ?_
    refine allS_consK rfl (fun K hK => ?_) ?_
    ·skip
     go_simp
     refine hK _ _ ?_
     clear hK K
     refine anyS_go (rs:=[1,2,3]) (by kernel_rfl) (by simp) ?_
     refine allS_consK rfl (fun K hK => ?_) ?_
     ·skip
      go_simp
      refine hK _ _ ?_
      clear hK K
      refine anyS_go (rs:=[2,3]) (by kernel_rfl) (by simp) ?_
      refine allS_consK rfl (fun K hK => ?_) ?_
      ·skip
       go_simp
       refine hK _ _ ?_
       clear hK K
       refine anyS_go (rs:=[3]) (by kernel_rfl) (by simp) ?_
       refine allS_consK rfl (fun K hK => ?_) ?_
       ·skip
        go_simp
        refine hK _ _ ?_
        clear hK K
        exact anyS_cast (by kernel_rfl) (HM2 _ _ ⟨rfl,rfl⟩)
       exact allS_nil
      refine allS_consK rfl (fun K hK => ?_) ?_
      ·skip
       go_simp
       refine hK _ _ ?_
       clear hK K
       refine anyS_go (rs:=[2]) (by kernel_rfl) (by simp) ?_
       refine allS_consK rfl (fun K hK => ?_) ?_
       ·skip
        go_simp
        refine hK _ _ ?_
        clear hK K
        exact anyS_cast (by kernel_rfl) (HM2 _ _ ⟨rfl,rfl⟩)
       exact allS_nil
      exact allS_nil
     refine allS_consK rfl (fun K hK => ?_) ?_
     ·skip
      go_simp
      refine hK _ _ ?_
      clear hK K
      refine anyS_go (rs:=[1,3]) (by kernel_rfl) (by simp) ?_
      refine allS_consK rfl (fun K hK => ?_) ?_
      ·skip
       go_simp
       refine hK _ _ ?_
       clear hK K
       refine anyS_go (rs:=[3]) (by kernel_rfl) (by simp) ?_
       refine allS_consK rfl (fun K hK => ?_) ?_
       ·skip
        go_simp
        refine hK _ _ ?_
        clear hK K
        exact anyS_cast (by kernel_rfl) (HM2 _ _ ⟨rfl,rfl⟩)
       exact allS_nil
      refine allS_consK rfl (fun K hK => ?_) ?_
      ·skip
       go_simp
       refine hK _ _ ?_
       clear hK K
       refine anyS_go (rs:=[1]) (by kernel_rfl) (by simp) ?_
       refine allS_consK rfl (fun K hK => ?_) ?_
       ·skip
        go_simp
        refine hK _ _ ?_
        clear hK K
        exact anyS_cast (by kernel_rfl) (HM2 _ _ ⟨rfl,rfl⟩)
       exact allS_nil
      exact allS_nil
     refine allS_consK rfl (fun K hK => ?_) ?_
     ·skip
      go_simp
      refine hK _ _ ?_
      clear hK K
      refine anyS_go (rs:=[1,2]) (by kernel_rfl) (by simp) ?_
      refine allS_consK rfl (fun K hK => ?_) ?_
      ·skip
       go_simp
       refine hK _ _ ?_
       clear hK K
       refine anyS_go (rs:=[2]) (by kernel_rfl) (by simp) ?_
       refine allS_consK rfl (fun K hK => ?_) ?_
       ·skip
        go_simp
        refine hK _ _ ?_
        clear hK K
        exact anyS_cast (by kernel_rfl) (HM2 _ _ ⟨rfl,rfl⟩)
       exact allS_nil
      refine allS_consK rfl (fun K hK => ?_) ?_
      ·skip
       go_simp
       refine hK _ _ ?_
       clear hK K
       refine anyS_go (rs:=[1]) (by kernel_rfl) (by simp) ?_
       refine allS_consK rfl (fun K hK => ?_) ?_
       ·skip
        go_simp
        refine hK _ _ ?_
        clear hK K
        exact anyS_cast (by kernel_rfl) (HM2 _ _ ⟨rfl,rfl⟩)
       exact allS_nil
      exact allS_nil
     exact allS_nil
    refine allS_consK rfl (fun K hK => ?_) ?_
    ·skip
     go_simp
     refine hK _ _ ?_
     clear hK K
     refine anyS_go (rs:=[0,3]) (by kernel_rfl) (by simp) ?_
     refine allS_consK rfl (fun K hK => ?_) ?_
     ·skip
      go_simp
      refine hK _ _ ?_
      clear hK K
      refine anyS_go (rs:=[2,3]) (by kernel_rfl) (by simp) ?_
      refine allS_consK rfl (fun K hK => ?_) ?_
      ·skip
       go_simp
       refine hK _ _ ?_
       clear hK K
       refine anyS_go (rs:=[3]) (by kernel_rfl) (by simp) ?_
       refine allS_consK rfl (fun K hK => ?_) ?_
       ·skip
        go_simp
        refine hK _ _ ?_
        clear hK K
        exact anyS_cast (by kernel_rfl) (HM2 _ _ ⟨rfl,rfl⟩)
       exact allS_nil
      refine allS_consK rfl (fun K hK => ?_) ?_
      ·skip
       go_simp
       refine hK _ _ ?_
       clear hK K
       refine anyS_go (rs:=[2]) (by kernel_rfl) (by simp) ?_
       refine allS_consK rfl (fun K hK => ?_) ?_
       ·skip
        go_simp
        refine hK _ _ ?_
        clear hK K
        exact anyS_cast (by kernel_rfl) (HM2 _ _ ⟨rfl,rfl⟩)
       exact allS_nil
      exact allS_nil
     refine allS_consK rfl (fun K hK => ?_) ?_
     ·skip
      go_simp
      refine hK _ _ ?_
      clear hK K
      refine anyS_go (rs:=[0]) (by kernel_rfl) (by simp) ?_
      refine allS_consK rfl (fun K hK => ?_) ?_
      ·skip
       go_simp
       refine hK _ _ ?_
       clear hK K
       refine anyS_go (rs:=[2]) (by kernel_rfl) (by simp) ?_
       refine allS_consK rfl (fun K hK => ?_) ?_
       ·skip
        go_simp
        refine hK _ _ ?_
        clear hK K
        exact anyS_cast (by kernel_rfl) (HM2 _ _ ⟨rfl,rfl⟩)
       exact allS_nil
      exact allS_nil
     exact allS_nil
    refine allS_consK rfl (fun K hK => ?_) ?_
    ·skip
     go_simp
     refine hK _ _ ?_
     clear hK K
     refine anyS_go (rs:=[0,1]) (by kernel_rfl) (by simp) ?_
     refine allS_consK rfl (fun K hK => ?_) ?_
     ·skip
      go_simp
      refine hK _ _ ?_
      clear hK K
      refine anyS_go (rs:=[1,2]) (by kernel_rfl) (by simp) ?_
      refine allS_consK rfl (fun K hK => ?_) ?_
      ·skip
       go_simp
       refine hK _ _ ?_
       clear hK K
       refine anyS_go (rs:=[2]) (by kernel_rfl) (by simp) ?_
       refine allS_consK rfl (fun K hK => ?_) ?_
       ·skip
        go_simp
        refine hK _ _ ?_
        clear hK K
        exact anyS_cast (by kernel_rfl) (HM2 _ _ ⟨rfl,rfl⟩)
       exact allS_nil
      refine allS_consK rfl (fun K hK => ?_) ?_
      ·skip
       go_simp
       refine hK _ _ ?_
       clear hK K
       refine anyS_go (rs:=[1]) (by kernel_rfl) (by simp) ?_
       refine allS_consK rfl (fun K hK => ?_) ?_
       ·skip
        go_simp
        refine hK _ _ ?_
        clear hK K
        exact anyS_cast (by kernel_rfl) (HM2 _ _ ⟨rfl,rfl⟩)
       exact allS_nil
      exact allS_nil
     refine allS_consK rfl (fun K hK => ?_) ?_
     ·skip
      go_simp
      refine hK _ _ ?_
      clear hK K
      refine anyS_go (rs:=[0]) (by kernel_rfl) (by simp) ?_
      refine allS_consK rfl (fun K hK => ?_) ?_
      ·skip
       go_simp
       refine hK _ _ ?_
       clear hK K
       refine anyS_go (rs:=[2]) (by kernel_rfl) (by simp) ?_
       refine allS_consK rfl (fun K hK => ?_) ?_
       ·skip
        go_simp
        refine hK _ _ ?_
        clear hK K
        exact anyS_cast (by kernel_rfl) (HM2 _ _ ⟨rfl,rfl⟩)
       exact allS_nil
      exact allS_nil
     exact allS_nil
    exact allS_nil
  ·rintro e W' (⟨rfl,a,q,rfl,h1,h2⟩ | ⟨rfl,c,h1⟩ | ⟨c,rfl,⟨e1,e2⟩,rfl,rfl,h1⟩)
   ·exact ⟨rfl,h1,h2⟩
   ·exact h1.elim
   ·exact ⟨rfl,h1⟩
 ·rintro e W hL
  match yn,hL,HH2 with
  | .error (c,ln),⟨he,h1,h2,h3⟩,HH2 =>
   subst he
   have hy0:y = .error (c,ln):=by
    have h:some (Except.error (c,ln))=some y:=HH2.out
    injection h with h
    exact h.symm
   subst hy0
   refine .inr ⟨_,rfl,?_⟩
   show LeavesInM Fence.wide 5 Tryz.prog Tryz.f161 _ _ _ _ _
   refine ⟨by simp,.inl ⟨_,_,rfl,run_takeDeferred h2,?_⟩⟩
   exact ⟨rfl,TurnR.putB h1 (by have:=HJ0.out.lo;omega)⟩
  | .ok (a,q),⟨hv,hj,hs,hla⟩,HH2 =>
   have hcnt:a.length+q.length≤r1.length:=by
    split at hyy
    ·have:=some_ok hyy
     injection this with this
     injection this with h3 h4
     subst h3 h4
     simp
    ·have:=nm_count last _ _ _ _ _ hyy
     simpa using this
   have hy2:((fns last f).block q).bind (fun b q=>Rd.ok (a++[b]) q)=some y:=HH2.out
   clear HH2 hyy HJ0 HS1
   refine .inl ⟨hv,hj.dd,.inl ⟨hj.rc,?_⟩⟩
   have hj1:=hj.turned (Rc .exhausted none)
   have hs1:=hs.putO (b:=B+1+1+1) (by have:=hj.lo;omega) (Rc .exhausted none)
   obtain ⟨W1,hW1⟩ : ∃ W1,W.putObj (B+1+1+1) (Rc .exhausted none)=W1:=⟨_,rfl⟩
   rw [hW1] at hj1 hs1 ⊢
   clear hW1 hj hs hR
   have hlo1:=hj1.lo
   have hsz1:=hj1.size
   obtain ⟨A1,c1,hbo,hrow⟩:=hj1.out
   have b0:=hbo.cell 0
   have b1:=hj1.bx0.cell 0
   simp only [List.getElem?_toArray,List.getElem?_cons_zero] at b0 b1
   have HBO1:=Lib.hid hbo.dr
   have HBX1:=Lib.hid hj1.bx0.dr
   have HS1d:=Lib.hid hs1.dr
   have HT1d:=Lib.hid (TurnR.dr hj1.tn)
   have HD1d:Hid (W1.drew.heap[B+1+1]? = some (.deferred (some []))):=Lib.hid hj1.dd
   have HOWN:Hid (∀ k,(Value.slice A1 a.length c1).ownBlock=some k→B+1+1+1+1≤k∧k<W1.heap.size):=Lib.hid hrow.own
   have HROW:=Lib.hid hrow.dr
   clear hj1 hs1 hrow hbo
   refine wpAt_of_wp ?_
   rcases bind_some hy2 with ⟨⟨ce,ln⟩,h1,rfl⟩ | ⟨z,r2,h1,h2⟩
   ·have HM:=Lib.hid h1
    clear h1 hy2
    go_wp2_with fail
    go_region_with (first
     | (go_at_call 105;refine (R.block _ _ _ HS1d.out HM.out).mono ?_;rintro e w7 ⟨rfl,ht7⟩;refine goneAny w7 (by show LeavesInM Fence.wide 5 Tryz.prog Tryz.f161 _ _ _ _ _;refine ⟨by simp,.inl ⟨_,_,rfl,run_takeDeferred ((ht7.block _ (show B+1+1<W1.drew.heap.size from (by show B+1+1<W1.heap.size;omega)) (by omega)).trans HD1d.out),?_⟩⟩;exact ⟨rfl,TurnR.putB (TurnR.trans HT1d.out ht7) (by omega)⟩) ?_))
    all_goals trivial
   have HM:=Lib.hid h1
   obtain rfl:=some_ok h2
   clear h1 h2 hy2
   go_wp2_with fail
   refine wp_midN (fun f=>{ tmps:=#[f 0,f 1,f 2,f 3,f 4,f 5,f 6,f 7,f 8,f 9,f 10,f 11,f 12,f 13,f 14,f 15,f 16,f 17,f 18,f 19,f 20,f 21,f 22,f 23,f 24,f 25,f 26,f 27,f 28,f 29,f 30],defers:=[{ target := .collected (B+1+1),args:=#[] }] }) (fun f w9 => ∃ g cap,f 2 = .slice (some ⟨g,0,none⟩) (a.length+1) cap∧RowT (B+1+1+1+1) w9 (a++[z]) (.slice (some ⟨g,0,none⟩) (a.length+1) cap)∧St w9 rb last r2∧TurnR rb w w9∧w9.heap[B+1+1]? = some (.deferred (some []))) ?h9 ?q9
   case h9 =>
    go_region_law (first
     | (refine step_append_row (v := .slice A1 a.length c1) (acc:=a) (B:=B+1+1+1+1) (by rfl) _ _ (by rfl) (by rfl) (HR7.out.al (.cells #[.int .i64 z.op,.string z.s,.int .i64 z.n,.slice A7 z.l.length c7,.int .i64 z.line] 29)) [(z,.slice A7 z.l.length c7)] ⟨w7.heap.size,0,none⟩ 1 1 (by rfl) (by rfl) (World.news_of_block (Blk.new w7 29 #[.int .i64 z.op,.string z.s,.int .i64 z.n,.slice A7 z.l.length c7,.int .i64 z.line])) (by intro p hp;simp only [List.mem_singleton] at hp;subst hp;exact ⟨HOK7.out,d7,TrP.weaken (fun k _ (hk:W1.heap.size≤k)=>⟨by omega,fun e=>by have:=HOWN.out k e;omega⟩) (HTX7.out.al (.cells #[.int .i64 z.op,.string z.s,.int .i64 z.n,.slice A7 z.l.length c7,.int .i64 z.line] 29))⟩) (by simp) (by simp;omega) (by rw [World.size_alloc];omega) ?_;intro g cap w8 hrow8 hgrow8 hat8 hlt8)
     | (go_simp;go_at_call 105;refine (R.block _ _ _ HS1d.out HM.out).mono ?_;rintro e w7 ⟨⟨v7,rfl,hok7,d7,sl7,rfl,htr7⟩,hs7,ht7⟩;obtain ⟨A7,c7,rfl⟩:=htr7.form;have HOK7:=Lib.hid hok7;have HTX7:=Lib.hid htr7;have HS7:=Lib.hid hs7;have HR7:=Lib.hid (HROW.out.tr ht7 (by omega));have hbo7:=HBO1.out.tr ht7 (by omega);have hbx7:=HBX1.out.tr ht7 (by omega);have t0:=hbo7.cell 0;have t1:=hbx7.cell 0;simp only [List.getElem?_toArray,List.getElem?_cons_zero] at t0 t1;have hz7:W1.heap.size≤w7.heap.size:=ht7.size;have hzo7:=hbo7.lt;have hzx7:=hbx7.lt))
    all_goals
     have hs8:=(HS7.out.alloc (.cells #[.int .i64 z.op,.string z.s,.int .i64 z.n,.slice A7 z.l.length c7,.int .i64 z.line] 29)).grown hgrow8 (fun k hk=>by have:=HOWN.out k hk;omega)
     have ht8:=TurnR.grown (TurnR.al (TurnR.trans HT1d.out ht7) (.cells #[.int .i64 z.op,.string z.s,.int .i64 z.n,.slice A7 z.l.length c7,.int .i64 z.line] 29)) hgrow8 (fun k hk=>by have:=HOWN.out k hk;omega)
     have hd7:w7.heap[B+1+1]? = some (.deferred (some [])):=(ht7.block _ (show B+1+1<W1.drew.heap.size from (by show B+1+1<W1.heap.size;omega)) (by omega)).trans HD1d.out
     have hd8:w8.heap[B+1+1]? = some (.deferred (some [])):=(hgrow8.block _ (by rw [World.size_alloc];omega) (fun e=>by have:=HOWN.out _ e.symm;omega)).trans (((Keep.alloc 0 w7 (.cells #[.int .i64 z.op,.string z.s,.int .i64 z.n,.slice A7 z.l.length c7,.int .i64 z.line] 29)).blk _ (Nat.zero_le _) (by omega)).trans hd7)
     exact midN_normal rfl ⟨g,cap,rfl,hrow8,hs8,ht8,hd8⟩
   rintro f9 w9 ⟨g,cap,hf2,hrow,hs,ht,hd⟩
   go_wp2
   refine ⟨by simp,.inl ⟨_,_,rfl,run_takeDeferred hd,?_⟩⟩
   refine ⟨.slice (some ⟨g,0,none⟩) (a.length+1) cap,?_,⟨_,rfl,(hrow.putB (by omega)).weaken (by omega),by simp;omega⟩,hs.putO (by omega) _,TurnR.putB ht (by omega)⟩
   simp [results,Tryz.f161,go_sem,hf2]
end
section
open Go.RowKit
def SMap (P:Program) (k:TypeId) (w:World) (b n:Nat) (f:List UInt8→Option Value):Prop :=
 ∃ D:DataW Value,w.ownsMap P k heldI b n D∧(∀ s:List UInt8,Maps.has D (.string s)=(f s).isSome) ∧ ∀ (s:List UInt8) v,f s=some v → ∀ z,D.atKey (.string s) z = .held v
section
variable {P:Program} {k:TypeId} {w w':World} {b n:Nat} {f:List UInt8→Option Value}
theorem SMap.isMap (h:SMap P k w b n f) : ∃ es clock,w.heap[b]? = some (.map es clock):=by
 obtain ⟨D,⟨es,clock,hb,_⟩,_⟩:=h
 exact ⟨es,clock,hb⟩
theorem SMap.lt (h:SMap P k w b n f):b<w.heap.size:=by
 obtain ⟨es,clock,hb⟩:=h.isMap
 exact (Array.getElem?_eq_some_iff.1 hb).1
theorem SMap.keep (h:SMap P k w b n f) (hk:w'.heap[b]? = w.heap[b]?):SMap P k w' b n f:=by
 obtain ⟨D,⟨es,clock,hb,r⟩,h2⟩:=h
 exact ⟨D,⟨es,clock,hk.trans hb,r⟩,h2⟩
theorem SMap.made (w:World) (P:Program) (k:TypeId):SMap P k (w.alloc (.map #[] 0)) w.heap.size 0 (fun _=>none) :=
 ⟨.map [],World.ownsMap_made w P k heldI,fun s=>rfl,fun s v h=>by cases h⟩
theorem SMap.look (h:SMap P k w b n f) (hu:P.underlying k=some .string) {t e:TypeId} (ht:P.underlying t=some (.map k e)) {z:Value} (hz:(zeroValue e).run P w = .ok z w)
  {s:ByteArray} (hs:s.size≤maxLen):(Instr.lookup t (.map (some b)) (.string s) false).run P w = .ok ((f s.data.toList).getD z) w:=by
 obtain ⟨D,h1,h2,h3⟩:=h
 obtain ⟨v,ps,hrun,hv⟩:=h1.lookup (Maps.string_keyed hu) ht hz (zd := .held z) (zp:=[]) rfl (WideMaps.keyOf_string_mk hu hs)
 rw [hrun]
 cases hf:f s.data.toList with
 | none =>
  have:=Maps.atKey_of_not_has (D:=D) (k := .string s.data.toList) (by rw [h2 s.data.toList,hf];rfl) (.held z)
  rw [this] at hv
  simp only [heldI,Option.some.injEq,Prod.mk.injEq,DataW.held.injEq] at hv
  rw [hv.1]
  rfl
 | some u =>
  rw [h3 _ _ hf] at hv
  simp only [heldI,Option.some.injEq,Prod.mk.injEq,DataW.held.injEq] at hv
  rw [hv.1]
  rfl
theorem SMap.store (h:SMap P k w b n f) (hu:P.underlying k=some .string) {t e:TypeId} (ht:P.underlying t=some (.map k e)) (hn:n<maxLen)
  {s:ByteArray} (hs:s.size≤maxLen) (u:Value) : ∃ w',(Instr.mapUpdate t (.map (some b)) (.string s) u).run P w = .ok () w' ∧
   SMap P k w' b (n+1) (fun x=>if x=s.data.toList then some u else f x)∧w.grownBy w' (some b):=by
 obtain ⟨D,h1,h2,h3⟩:=h
 obtain ⟨w',hrun,ho,hg⟩:=h1.update (Maps.string_keyed hu) ht hn (WideMaps.keyOf_string_mk hu hs) (val:=u) (d := .held u) (ps:=[]) rfl
 refine ⟨w',hrun,⟨_,ho,fun x => ?_,fun x v hv z => ?_⟩,hg⟩
 ·by_cases hxs:x=s.data.toList
  ·subst hxs
   rw [Maps.has_put_same h1.isMap (show WideAt.IsKeyLit (.string s.data.toList) from True.intro)]
   simp
  ·rw [Maps.has_put_other (by simpa using hxs),h2 x]
   simp [hxs]
 ·by_cases hxs:x=s.data.toList
  ·subst hxs
   simp only [if_true,Option.some.injEq] at hv
   rw [Maps.atKey_put_same h1.isMap (show WideAt.IsKeyLit (.string s.data.toList) from True.intro),hv]
  ·rw [Maps.atKey_put_other (by simpa using hxs)]
   exact h3 x v (by simpa [hxs] using hv) z
end
end
end Go.Proofs.YtjjdmiaonkailaaGreatDoor
