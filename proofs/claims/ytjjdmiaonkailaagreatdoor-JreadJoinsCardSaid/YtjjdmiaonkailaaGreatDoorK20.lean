/- Walks and plain laws, packed: RowP, RdW, RdG. -/
import Derived.Test.YtjjdmiaonkailaaGreatDoorK19
import Derived.Deep.RegionHeld3
import Derived.Deep.RegionWith
import Derived.Deep.AppendLies
namespace Go.Proofs.YtjjdmiaonkailaaGreatDoor
section
open Go.RowKit Go.Sort
def RowP (Bk:Nat→Prop) (B:Nat) (W:World) (acc:List Tree) (v:Value):Prop :=
 ∃ l:List (Tree × Value),l.map Prod.fst=acc∧W.ownsRow B 29 5 v l.length (flatN l) ∧ ∀ p,p ∈ l→p.1.ok ∧ ∃ d,TrP (fun k=>Bk k∧v.ownBlock≠some k) W d p.1.l p.2
section
variable {Bk:Nat→Prop} {B:Nat} {W W':World} {acc:List Tree} {v:Value}
theorem RowP.turn (h:RowP Bk B W acc v) (hb : ∀ k,(Bk k∨v.ownBlock=some k)→k<W.heap.size→W'.heap[k]? = W.heap[k]?) (hsz:W.heap.size≤W'.heap.size):RowP Bk B W' acc v:=by
 obtain ⟨l,h1,h2,h3⟩:=h
 refine ⟨l,h1,own_keep h2 fun g hg=>hb g (.inr hg) (h2.lt g hg).2,fun p hp => ?_⟩
 obtain ⟨h4,d,h5⟩:=h3 p hp
 exact ⟨h4,d,h5.turn (fun k hk=>hb k (.inl hk.1)) hsz⟩
theorem RowP.own (h:RowP Bk B W acc v) : ∀ k,v.ownBlock=some k→B≤k∧k<W.heap.size:=by
 obtain ⟨l,_,h2,_⟩:=h
 exact h2.lt
theorem RowP.al (h:RowP Bk B W acc v) (o:Obj):RowP Bk B (W.alloc o) acc v:=h.turn (fun k _ hs=>(Keep.alloc 0 W o).blk k (Nat.zero_le _) hs) (Keep.alloc 0 W o).size
theorem RowP.dr (h:RowP Bk B W acc v):RowP Bk B W.drew acc v:=h.turn (fun _ _ _=>rfl) (Nat.le_refl _)
theorem RowP.far (h:RowP Bk B W acc v) {p:Addr} (h1:¬ Bk p.block) (h2:v.ownBlock≠some p.block) (u:Value):RowP Bk B (W.setCell p u) acc v :=
 h.turn (fun k hk _=>Below.heap_setCell _ _ _ _ (fun e=>by subst e;exact hk.elim h1 h2)) (by simp [World.setCell])
theorem RowP.tr {rb:Nat} (h:RowP Bk B W acc v) (t:TurnR rb W W') (h1:¬ Bk rb) (h2:rb<B):RowP Bk B W' acc v :=
 h.turn (fun k hk hs=>t.block k hs (fun e=>by subst e;exact hk.elim h1 (fun e=>by have:=(h.own _ e).1;omega))) t.size
theorem RowP.form (h:RowP Bk B W acc v) : ∃ A c,v = .slice A acc.length c:=by
 obtain ⟨l,rfl,h2,_⟩:=h
 obtain ⟨A,c,rfl⟩:=own_slice h2
 exact ⟨A,c,by simp⟩
theorem RowP.trees (h:RowP Bk B W acc v) (hg : ∀ k,v.ownBlock=some k→Bk k) (hl:acc.length≤maxLen) : ∃ d,TrP Bk W d acc v:=by
 obtain ⟨l,rfl,h2,h3⟩:=h
 have h3' : ∀ p,p ∈ l→p.1.ok ∧ ∃ d,TrP Bk W d p.1.l p.2:=fun p hp=>by
  obtain ⟨h4,d,h5⟩:=h3 p hp
  exact ⟨h4,d,h5.weaken (fun _ _ hk=>hk.1)⟩
 cases hl0:l with
 | nil =>
  subst hl0
  obtain ⟨A,c,rfl⟩:=own_slice h2
  exact ⟨0,TrP.nil 0 A c⟩
 | cons p r =>
  rw [← hl0]
  obtain ⟨g,cap,hv,hg1,hc⟩:=World.ownsRow.form h2 (by rw [hl0];simp)
  subst hv
  have hlt:=h2.lt g rfl
  have hcap:l.length≤cap:=by
   rcases h2.2 with ⟨h4,_⟩ | ⟨g2,cap2,cur,h4,_,_,h5⟩
   ·cases h4
   ·injection h4 with h4 h6 h7
    subst h7
    omega
  rw [List.length_map] at hl
  exact TrP.of_cells ⟨hg g rfl,hlt.2⟩ hl hcap (fun i hi=>World.ownsRow.cellAt h2 i (by omega)) h3'
theorem RowP.appended {w':World} {v:Value} {l l2:List (Tree × Value)} {g cap:Nat} (hp : ∀ p,p ∈ l++l2→p.1.ok ∧ ∃ d,TrP (fun k=>Bk k∧v.ownBlock≠some k) W d p.1.l p.2)
  (h1:w'.ownsRow B 29 5 (.slice (some ⟨g,0,none⟩) (l.length+l2.length) cap) (l.length+l2.length) (flatN l++flatN l2)) (h2:W.grownBy w' v.ownBlock) (h3:v.ownBlock=some g∨g=W.heap.size) :
  RowP Bk B w' (l.map Prod.fst++l2.map Prod.fst) (.slice (some ⟨g,0,none⟩) (l.length+l2.length) cap):=by
 refine ⟨l++l2,by simp,by rw [List.length_append,flatN_append];exact h1,fun p hm => ?_⟩
 obtain ⟨h4,d,h5⟩:=hp p hm
 have h6:TrP (fun k=>(Bk k∧v.ownBlock≠some k)∧k<W.heap.size) w' d p.1.l p.2:=h5.lt.turn (fun k hk hs=>h2.block k hs (fun e=>hk.1.2 e.symm)) h2.size
 refine ⟨h4,d,h6.weaken fun k _ hk=>⟨hk.1.1,fun e => ?_⟩⟩
 have e:g=k:=by simpa [Value.ownBlock] using e
 subst e
 rcases h3 with h3 | h3
 ·exact hk.1.2 h3
 ·omega
theorem step_append_rowP {ops:Array Oper} {o:Oper} {a:Act} {K:Act→World→Prop} {Q:Exit→Act→World→Prop} {E:Prop} (hgd:o.guard=none) (s x:Operand)
  (ho:o.op = .call { callee := .builtin .append,args:=#[s,x],argTypes:=#[27,27] })
  {acc:List Tree} {v:Value} (hs:a.eval s=v) (hr:RowP Bk B W acc v) (l2:List (Tree × Value)) (ad:Addr) (m c:Nat) (hx:a.eval x = .slice (some ad) m c) (hm:m=l2.length) (hnews : ∀ j u,(flatN l2)[j]? = some u→W.cell? (ad.add j)=some u)
  (hp : ∀ p,p ∈ l2→p.1.ok ∧ ∃ d,TrP (fun k=>Bk k∧v.ownBlock≠some k) W d p.1.l p.2) (hm0:0<l2.length) (hlen:acc.length+l2.length≤1000000) (hbase:B≤W.heap.size)
  (h : ∀ g cap w',RowP Bk B w' (acc++l2.map Prod.fst) (.slice (some ⟨g,0,none⟩) (acc.length+m) cap)→W.grownBy w' v.ownBlock→(v.ownBlock=some g∨g=W.heap.size)→g<w'.heap.size→K (a.put o.dst (.slice (some ⟨g,0,none⟩) (acc.length+m) cap)) w') :
  if Region.wanted o (yielded ops a.tmps)=true then Oper.wp Tryz.prog o a W K Q else E:=by
 subst hm
 obtain ⟨l,rfl,hown,hpl⟩:=hr
 obtain ⟨i0,hi0,hz0,hz1,hz2⟩:=info_parts node_info
 rw [List.length_map] at hlen h
 refine step_append_lies W hgd s x 27 ho B 29 i0 _ 5 64 Tryz.underlying27 hi0 hz0 hz1 hz2 rfl (by omega) v l.length (flatN l) hs hown ad l2.length c (flatN l2) hx (by rw [flatN_len];omega) hnews (flatN_oneCell l2 fun p hm=>by obtain ⟨_,d,hd⟩:=hp p hm;exact hd.one) hm0 (by simp only [maxLen];omega) (by omega) hbase W.heap.size rfl ?_
 intro g cap w' h1 h2 h3 h4
 exact h g cap w' (RowP.appended (fun p hq=>(List.mem_append.1 hq).elim (hpl p) (hp p)) h1 h2 h3) h2 h3 h4
theorem step_append_none {ops:Array Oper} {o:Oper} {a:Act} {K:Act→World→Prop} {Q:Exit→Act→World→Prop} {E:Prop} (hgd:o.guard=none) (s x:Operand)
  (ho:o.op = .call { callee := .builtin .append,args:=#[s,x],argTypes:=#[27,27] })
  (g n c:Nat) (hs:a.eval s = .slice (some ⟨g,0,none⟩) n c) (hnc:n≤c) (hx:a.eval x = .slice none 0 0)
  (h:K (a.put o.dst (.slice (some ⟨g,0,none⟩) n c)) W) :
  if Region.wanted o (yielded ops a.tmps)=true then Oper.wp Tryz.prog o a W K Q else E:=by
 have hw:Region.wanted o (yielded ops a.tmps)=true:=by simp [Region.wanted,hgd]
 rw [if_pos hw]
 obtain ⟨i0,hi0,hz0,hz1,hz2⟩:=info_parts node_info
 have hr:(Builtin.append_ #[27,27] o.type #[.slice (some ⟨g,0,none⟩) n c,.slice none 0 0]).run Tryz.prog W = .ok (.slice (some ⟨g,0,none⟩) n c) W:=by
  simp [Builtin.append_,run_underlying Tryz.underlying27,sizeOf,typeInfo,hi0,Builtin.lenOf,hnc,run_firstCells_none,storeCells]
 unfold Oper.wp execOp
 simp only [ho,resolve,invoke,builtin,Sem.run_bind,Sem.run_pure,Result.andThen_ok,List.map_toArray,List.map_cons,List.map_nil,hs,hx,hr]
 exact h
theorem RowP.one {d cx:Nat} {w5:World} {x:Tree} {A:Option Addr} (hB:B≤w5.heap.size) (hok:x.ok) (h:TrP Bk w5 d x.l (.slice A x.l.length cx)) :
  RowP Bk B (w5.alloc (.cells #[.int .i64 x.op,.string x.s,.int .i64 x.n,.slice A x.l.length cx,.int .i64 x.line] 29)) [x] (.slice (some ⟨w5.heap.size,0,none⟩) 1 1):=by
 have e:(flatN [(x,.slice A x.l.length cx)]).toArray=#[.int .i64 x.op,.string x.s,.int .i64 x.n,.slice A x.l.length cx,.int .i64 x.line]:=rfl
 have hb:=Blk.new w5 29 (flatN [(x,.slice A x.l.length cx)]).toArray
 rw [e] at hb
 have h2:TrP (fun k=>Bk k∧k<w5.heap.size) (w5.alloc (.cells #[.int .i64 x.op,.string x.s,.int .i64 x.n,.slice A x.l.length cx,.int .i64 x.line] 29)) d x.l (.slice A x.l.length cx):=h.lt.turn (fun k _ hs=>(Keep.alloc 0 w5 _).blk k (Nat.zero_le _) hs) (Keep.alloc 0 w5 _).size
 generalize hW:w5.alloc (.cells #[.int .i64 x.op,.string x.s,.int .i64 x.n,.slice A x.l.length cx,.int .i64 x.line] 29)=W at *
 refine ⟨[(x,.slice A x.l.length cx)],rfl,⟨rfl,.inr ⟨w5.heap.size,1,_,rfl,hB,hb,Nat.le_refl _,by decide,rfl,rfl⟩⟩,fun p hm => ?_⟩
 simp only [List.mem_singleton] at hm
 subst hm
 exact ⟨hok,d,h2.weaken fun k _ hk=>⟨hk.1,fun e=>by have:w5.heap.size=k:=by simpa [Value.ownBlock] using e
                                                    omega⟩⟩
end
end
section
open Go.RowKit Go.Sort
theorem TrP.tr {rb d:Nat} {Bk:Nat→Prop} {a b:World} {l:List Tree} {v:Value} (h:TrP Bk a d l v) (t:TurnR rb a b) (h1:¬ Bk rb):TrP Bk b d l v:=h.turn (fun k hk hs=>t.block k hs (fun e=>by subst e;exact h1 hk)) t.size
theorem TrP.al {d:Nat} {Bk:Nat→Prop} {a:World} {l:List Tree} {v:Value} (h:TrP Bk a d l v) (o:Obj):TrP Bk (a.alloc o) d l v:=h.turn (fun k _ hs=>(Keep.alloc 0 a o).blk k (Nat.zero_le _) hs) (Keep.alloc 0 a o).size
theorem TrP.far {d:Nat} {Bk:Nat→Prop} {a:World} {l:List Tree} {v:Value} (h:TrP Bk a d l v) {p:Addr} (h1:¬ Bk p.block) (u:Value):TrP Bk (a.setCell p u) d l v:=h.turn (fun _ hk _=>Below.heap_setCell _ _ _ _ (fun e=>by subst e;exact h1 hk)) (by simp [World.setCell])
def midPost5 (A:Option Addr→Nat→Nat→Nat→Nat→Act) (R:Option Addr→Nat→Nat→Nat→Nat→World→Prop):Exit→Act→World→Prop
 | .normal,a,w => ∃ v c m g n,a=A v c m g n∧R v c m g n w
 | _,_,_=>False
theorem wp_mid5 {P:Program} {c:Code} {Q:Exit→Act→World→Prop} {a:Act} {w:World} (A:Option Addr→Nat→Nat→Nat→Nat→Act) (R:Option Addr→Nat→Nat→Nat→Nat→World→Prop)
  (h:c.wp P (midPost5 A R) a w) (hq : ∀ v c m g n w',R v c m g n w'→Q .normal (A v c m g n) w'):c.wp P Q a w :=
 wp_mono h (fun e a' w' hh=>by
  cases e with
  | normal =>
   obtain ⟨v,c,m,g,n,rfl,hr⟩:=hh
   exact hq v c m g n w' hr
  | _=>exact hh.elim)
def midPost0 (A:Act) (R:World→Prop):Exit→Act→World→Prop
 | .normal,a,w=>a=A∧R w
 | _,_,_=>False
theorem wp_mid0 {P:Program} {c:Code} {Q:Exit→Act→World→Prop} {a:Act} {w:World} (A:Act) (R:World→Prop) (h:c.wp P (midPost0 A R) a w) (hq : ∀ w',R w'→Q .normal A w'):c.wp P Q a w :=
 wp_mono h (fun e a' w' hh=>by
  cases e with
  | normal =>
   obtain ⟨rfl,hr⟩:=hh
   exact hq w' hr
  | _=>exact hh.elim)
def midPost4 (A:Nat→Nat→Nat→Nat→Act) (R:Nat→Nat→Nat→Nat→World→Prop):Exit→Act→World→Prop
 | .normal,a,w => ∃ c m g n,a=A c m g n∧R c m g n w
 | _,_,_=>False
theorem wp_mid4 {P:Program} {c:Code} {Q:Exit→Act→World→Prop} {a:Act} {w:World} (A:Nat→Nat→Nat→Nat→Act) (R:Nat→Nat→Nat→Nat→World→Prop)
  (h:c.wp P (midPost4 A R) a w) (hq : ∀ c m g n w',R c m g n w'→Q .normal (A c m g n) w'):c.wp P Q a w :=
 wp_mono h (fun e a' w' hh=>by
  cases e with
  | normal =>
   obtain ⟨c,m,g,n,rfl,hr⟩:=hh
   exact hq c m g n w' hr
  | _=>exact hh.elim)
end
section
open Go.RowKit Go.Sort
set_option maxRecDepth 100000 in
set_option maxHeartbeats 2000000 in
theorem signed_step {rb last f:Nat} (R:AllR rb last f) (w:World) (l:List Tl) (y:Except (Int × Int) ((Tree × Bool) × List Tl)) (h:St w rb last l) (hy:signedS last (fns last f) l=some y) :
  Calls Tryz.prog 119 #[rdP rb] w (PostS rb last w (PairV w.heap.size) y):=by
 have hlt:=h.lt
 have HS:=Lib.hid (h.alloc (.cells zeroN 29))
 have hk:=Blk.new w 29 zeroN
 have HT:=Lib.hid (alloc_turn w rb (.cells zeroN 29))
 have f3:=field_tok3
 unfold signedS at hy
 clear h
 go_enter Tryz.func119,Tryz.ntmps119
 go_wp2_with fail
 refine (here_calls _ rb last l HS.out).mono ?_
 rintro e w2 ⟨rfl,hb2⟩
 unfold tokV
 have ht2:=turn_below (rb:=rb) hb2
 have HS2:=Lib.hid ((HS.out.below hb2).alloc (.cells #[.int .i64 0,.string ⟨#[]⟩,.int .i64 0,.slice none 0 0,.int .i64 (hereF last l).line] 29))
 have HT2:=Lib.hid ((TurnR.trans HT.out ht2).al (.cells #[.int .i64 0,.string ⟨#[]⟩,.int .i64 0,.slice none 0 0,.int .i64 (hereF last l).line] 29))
 have hk2:=(hk.tr ht2 (by omega)).alloc (.cells #[.int .i64 0,.string ⟨#[]⟩,.int .i64 0,.slice none 0 0,.int .i64 (hereF last l).line] 29)
 have hn2:=Blk.new w2 29 #[.int .i64 0,.string ⟨#[]⟩,.int .i64 0,.slice none 0 0,.int .i64 (hereF last l).line]
 have hz2:w.heap.size+1≤w2.heap.size:=by have:=ht2.size;simp at this;omega
 clear hb2 ht2 hk
 cases ha:atF [[33]] l with
 | true =>
  rw [ha] at hy
  have hy:((fns last f).signed l.tail).bind (fun p r=>Rd.ok (nd 19 [] [p.1] (hereF last l).line,false) r)=some y:=hy
  go_wp2_with fail
  refine (takes1 HS2.out ⟨#[33]⟩ _ ?hn _ ha).mono ?_
  case hn=>simp
  rintro e w4 ⟨rfl,hs4,ht4⟩
  have hs4:St w4 rb last l.tail:=by simpa using hs4
  have hr0:RowT (w.heap.size+1) (w4.setCell ⟨w2.heap.size,0,none⟩ (.int .i64 19)) [] (.slice none 0 0):=RowT.nil
  have hwr:w.heap.size≠rb:=by omega
  have hw2r:w2.heap.size≠rb:=by omega
  have hw2w:w2.heap.size≠w.heap.size:=by omega
  have HS4:=Lib.hid (hs4.set' (g:=w2.heap.size) (j:=0) (by omega) (.int .i64 19))
  have HT4:=Lib.hid (TurnR.set (p:=⟨w2.heap.size,0,none⟩) (TurnR.trans HT2.out ht4) (by show w.heap.size≤w2.heap.size;omega) (.int .i64 19))
  have hk4:=(hk2.tr ht4 hwr).far (p:=⟨w2.heap.size,0,none⟩) (fun e=>hw2w e.symm) (.int .i64 19)
  have hn4':=(hn2.tr ht4 hw2r)
  have hz4:=hn4'.lt
  have hn4:Blk (w4.setCell ⟨w2.heap.size,0,none⟩ (.int .i64 19)) w2.heap.size 29 #[.int .i64 19,.string ⟨#[]⟩,.int .i64 0,.slice none 0 0,.int .i64 (hereF last l).line]:=by simpa using hn4'.set_ 0 (.int .i64 19)
  obtain ⟨⟨a0,a1,a2,a3,a4⟩,f0,f1,f2,f3',f4⟩:=hn4'.five
  clear hn2 hk2 hs4 ht4 hn4'
  rcases bind_some hy with ⟨⟨c,ln⟩,h1,rfl⟩ | ⟨⟨x,b⟩,r,h1,h2⟩
  ·have HM:=Lib.hid h1
   clear h1 hy
   go_wp2_with fail
   refine (R.signed _ _ _ HS4.out HM.out).mono ?_
   rintro e w5 ⟨rfl,ht5⟩
   exact ⟨rfl,PostS.err rfl (TurnR.trans HT4.out ht5)⟩
  have HM:=Lib.hid h1
  obtain rfl:=some_ok h2
  clear h1 hy h2
  go_wp2_with fail
  refine (R.signed _ _ _ HS4.out HM.out).mono ?_
  clear a0 a1 a2 a3 a4 f0 f1 f2 f3' f4
  rintro e w5 ⟨⟨_,rfl,_,rfl,hok,d,sl,rfl,htr⟩,hs5,ht5⟩
  obtain ⟨A,cx,rfl⟩:=htr.form
  rw [World.size_setCell] at htr
  have hn5:=hn4.tr ht5 hw2r
  have hk5:=hk4.tr ht5 hwr
  have hz5:w2.heap.size<w5.heap.size:=hn5.lt
  have hs5':St ((w5.alloc (.cells #[.int .i64 x.op,.string x.s,.int .i64 x.n,.slice A x.l.length cx,.int .i64 x.line] 29)).alloc (.cells #[.int .i64 x.op,.string x.s,.int .i64 x.n,.slice A x.l.length cx,.int .i64 x.line] 29)) rb last r:=(hs5.alloc _).alloc _
  have HS5:=Lib.hid hs5'
  have HT5:=Lib.hid (((TurnR.trans HT4.out ht5).al (.cells #[.int .i64 x.op,.string x.s,.int .i64 x.n,.slice A x.l.length cx,.int .i64 x.line] 29)).al (.cells #[.int .i64 x.op,.string x.s,.int .i64 x.n,.slice A x.l.length cx,.int .i64 x.line] 29))
  have HN5:=Lib.hid ((hn5.alloc (.cells #[.int .i64 x.op,.string x.s,.int .i64 x.n,.slice A x.l.length cx,.int .i64 x.line] 29)).alloc (.cells #[.int .i64 x.op,.string x.s,.int .i64 x.n,.slice A x.l.length cx,.int .i64 x.line] 29))
  have HK5:=Lib.hid ((hk5.alloc (.cells #[.int .i64 x.op,.string x.s,.int .i64 x.n,.slice A x.l.length cx,.int .i64 x.line] 29)).alloc (.cells #[.int .i64 x.op,.string x.s,.int .i64 x.n,.slice A x.l.length cx,.int .i64 x.line] 29))
  have HOK:=Lib.hid hok
  have HTR5:=Lib.hid ((htr.al (.cells #[.int .i64 x.op,.string x.s,.int .i64 x.n,.slice A x.l.length cx,.int .i64 x.line] 29)).al (.cells #[.int .i64 x.op,.string x.s,.int .i64 x.n,.slice A x.l.length cx,.int .i64 x.line] 29))
  obtain ⟨⟨a0,a1,a2,a3,a4⟩,f0,f1,f2,f3',f4⟩:=hn5.five
  have HB:=Lib.hid (Blk.new (w5.alloc (.cells #[.int .i64 x.op,.string x.s,.int .i64 x.n,.slice A x.l.length cx,.int .i64 x.line] 29)) 29 #[.int .i64 x.op,.string x.s,.int .i64 x.n,.slice A x.l.length cx,.int .i64 x.line])
  have HROW:=Lib.hid (RowT.nil (B:=w2.heap.size+1) (W:=(w5.alloc (.cells #[.int .i64 x.op,.string x.s,.int .i64 x.n,.slice A x.l.length cx,.int .i64 x.line] 29)).alloc (.cells #[.int .i64 x.op,.string x.s,.int .i64 x.n,.slice A x.l.length cx,.int .i64 x.line] 29)))
  clear hs5 hs5' ht5 hok htr hn4 hk4 hn5 hk5
  go_wp2_with (at_builtin;go_loud (refine wpList_append_row (v := .slice none 0 0) (acc:=[]) (B:=w2.heap.size+1) (W:=(w5.alloc (.cells #[.int .i64 x.op,.string x.s,.int .i64 x.n,.slice A x.l.length cx,.int .i64 x.line] 29)).alloc (.cells #[.int .i64 x.op,.string x.s,.int .i64 x.n,.slice A x.l.length cx,.int .i64 x.line] 29)) rfl _ _ rfl rfl HROW.out [(x,.slice A x.l.length cx)] ⟨w5.heap.size+1,0,none⟩ 1 1 rfl rfl (World.news_of_block (by have:=HB.out;rw [World.size_alloc] at this;exact this)) (by intro p hp;simp only [List.mem_singleton] at hp;subst hp;exact ⟨HOK.out,d,TrP.weaken (fun k _ (hk:w4.heap.size≤k)=>⟨by omega,by simp [Value.ownBlock]⟩) HTR5.out⟩) (by simp) (by simp) (by simp;omega) ?_))
  intro g cap w7 hrow7 hgrow7 hat7 hlt7
  have ht7:=TurnR.grown HT5.out hgrow7 (by simp [Value.ownBlock])
  have hs7:=HS5.out.grown hgrow7 (by simp [Value.ownBlock])
  have hn7:=HN5.out.grown hgrow7 (by simp [Value.ownBlock])
  have hk7:=HK5.out.grown hgrow7 (by simp [Value.ownBlock])
  obtain ⟨⟨p0,p1,p2,p3,p4⟩,q0,q1,q2,q3,q4⟩:=hn7.five
  obtain ⟨⟨b0,b1,b2,b3,b4⟩,g0,g1,g2,g3,g4⟩:=hk7.five
  clear a0 a1 a2 a3 a4 f0 f1 f2 f3' f4
  have hq:w.heap.size≠w2.heap.size:=by omega
  have HK7:=Lib.hid (hk7.far (p:=⟨w2.heap.size,3,none⟩) hq (.slice (some ⟨g,0,none⟩) 1 cap))
  have HR7:=Lib.hid (hrow7.far (p:=⟨w2.heap.size,3,none⟩) (by show w2.heap.size<w2.heap.size+1;omega) (.slice (some ⟨g,0,none⟩) 1 cap))
  have HS7:=Lib.hid (hs7.set' (g:=w2.heap.size) (j:=3) (by omega) (.slice (some ⟨g,0,none⟩) 1 cap))
  have HT7:=Lib.hid (TurnR.set (p:=⟨w2.heap.size,3,none⟩) ht7 (by show w.heap.size≤w2.heap.size;omega) (.slice (some ⟨g,0,none⟩) 1 cap))
  clear hrow7 hs7 ht7 hk7 hn7 hgrow7 hat7
  go_wp2
  refine ret_pair (HK7.out.set5 _ _ _ _ _) rfl rfl rfl rfl ?_
  obtain ⟨q1,q2,d7,q3⟩:=fin_rowt hlt HS7.out HT7.out (HR7.out.weaken (B':=w.heap.size+1) (by omega)) (by simp) (.int .i64 19) (.string ⟨#[]⟩) (.int .i64 0) (.slice (some ⟨g,0,none⟩) 1 cap) (.int .i64 (hereF last l).line)
  exact PostS.ok rfl ⟨_,rfl,nd_ok (by decide) (by decide),d7,_,rfl,q3⟩ q1 q2
 | false =>
  rw [ha,if_neg (by decide)] at hy
  go_wp2_with fail
  refine (takes1 HS2.out ⟨#[33]⟩ _ ?hnb _ ha).mono ?_
  case hnb=>simp
  rintro e w3 ⟨rfl,hs3,ht3⟩
  have HS3:Hid (St w3 rb last l):=Lib.hid (by simpa using hs3)
  have HT3:=Lib.hid (TurnR.trans HT2.out ht3)
  have hk3:=hk2.tr ht3 (by omega)
  have hn3:=hn2.tr ht3 (by omega)
  have hz3:w2.heap.size<w3.heap.size:=hn3.lt
  clear hs3 ht3 hk2 hn2
  cases hb:atF [[45]] l with
  | true =>
   rw [hb] at hy
   have hy:((fns last f).signed l.tail).bind (fun p r=>Rd.ok (nd 20 [] [p.1] (hereF last l).line,false) r)=some y:=hy
   go_wp2_with fail
   refine (takes1 HS3.out ⟨#[45]⟩ _ ?hnc _ hb).mono ?_
   case hnc=>simp
   rintro e w4 ⟨rfl,hs4,ht4⟩
   have hs4:St w4 rb last l.tail:=by simpa using hs4
   have hk2:=hk3
   have hn2:=hn3
   have HT2:=HT3
   have hr0:RowT (w.heap.size+1) (w4.setCell ⟨w2.heap.size,0,none⟩ (.int .i64 20)) [] (.slice none 0 0):=RowT.nil
   have hwr:w.heap.size≠rb:=by omega
   have hw2r:w2.heap.size≠rb:=by omega
   have hw2w:w2.heap.size≠w.heap.size:=by omega
   have HS4:=Lib.hid (hs4.set' (g:=w2.heap.size) (j:=0) (by omega) (.int .i64 20))
   have HT4:=Lib.hid (TurnR.set (p:=⟨w2.heap.size,0,none⟩) (TurnR.trans HT2.out ht4) (by show w.heap.size≤w2.heap.size;omega) (.int .i64 20))
   have hk4:=(hk2.tr ht4 hwr).far (p:=⟨w2.heap.size,0,none⟩) (fun e=>hw2w e.symm) (.int .i64 20)
   have hn4':=(hn2.tr ht4 hw2r)
   have hz4:=hn4'.lt
   have hn4:Blk (w4.setCell ⟨w2.heap.size,0,none⟩ (.int .i64 20)) w2.heap.size 29 #[.int .i64 20,.string ⟨#[]⟩,.int .i64 0,.slice none 0 0,.int .i64 (hereF last l).line]:=by simpa using hn4'.set_ 0 (.int .i64 20)
   obtain ⟨⟨a0,a1,a2,a3,a4⟩,f0,f1,f2,f3',f4⟩:=hn4'.five
   clear hn2 hk2 hs4 ht4 hn4'
   rcases bind_some hy with ⟨⟨c,ln⟩,h1,rfl⟩ | ⟨⟨x,b⟩,r,h1,h2⟩
   ·have HM:=Lib.hid h1
    clear h1 hy
    go_wp2_with fail
    refine (R.signed _ _ _ HS4.out HM.out).mono ?_
    rintro e w5 ⟨rfl,ht5⟩
    exact ⟨rfl,PostS.err rfl (TurnR.trans HT4.out ht5)⟩
   have HM:=Lib.hid h1
   obtain rfl:=some_ok h2
   clear h1 hy h2
   go_wp2_with fail
   refine (R.signed _ _ _ HS4.out HM.out).mono ?_
   clear a0 a1 a2 a3 a4 f0 f1 f2 f3' f4
   rintro e w5 ⟨⟨_,rfl,_,rfl,hok,d,sl,rfl,htr⟩,hs5,ht5⟩
   obtain ⟨A,cx,rfl⟩:=htr.form
   rw [World.size_setCell] at htr
   have hn5:=hn4.tr ht5 hw2r
   have hk5:=hk4.tr ht5 hwr
   have hz5:w2.heap.size<w5.heap.size:=hn5.lt
   have hs5':St ((w5.alloc (.cells #[.int .i64 x.op,.string x.s,.int .i64 x.n,.slice A x.l.length cx,.int .i64 x.line] 29)).alloc (.cells #[.int .i64 x.op,.string x.s,.int .i64 x.n,.slice A x.l.length cx,.int .i64 x.line] 29)) rb last r:=(hs5.alloc _).alloc _
   have HS5:=Lib.hid hs5'
   have HT5:=Lib.hid (((TurnR.trans HT4.out ht5).al (.cells #[.int .i64 x.op,.string x.s,.int .i64 x.n,.slice A x.l.length cx,.int .i64 x.line] 29)).al (.cells #[.int .i64 x.op,.string x.s,.int .i64 x.n,.slice A x.l.length cx,.int .i64 x.line] 29))
   have HN5:=Lib.hid ((hn5.alloc (.cells #[.int .i64 x.op,.string x.s,.int .i64 x.n,.slice A x.l.length cx,.int .i64 x.line] 29)).alloc (.cells #[.int .i64 x.op,.string x.s,.int .i64 x.n,.slice A x.l.length cx,.int .i64 x.line] 29))
   have HK5:=Lib.hid ((hk5.alloc (.cells #[.int .i64 x.op,.string x.s,.int .i64 x.n,.slice A x.l.length cx,.int .i64 x.line] 29)).alloc (.cells #[.int .i64 x.op,.string x.s,.int .i64 x.n,.slice A x.l.length cx,.int .i64 x.line] 29))
   have HOK:=Lib.hid hok
   have HTR5:=Lib.hid ((htr.al (.cells #[.int .i64 x.op,.string x.s,.int .i64 x.n,.slice A x.l.length cx,.int .i64 x.line] 29)).al (.cells #[.int .i64 x.op,.string x.s,.int .i64 x.n,.slice A x.l.length cx,.int .i64 x.line] 29))
   obtain ⟨⟨a0,a1,a2,a3,a4⟩,f0,f1,f2,f3',f4⟩:=hn5.five
   have HB:=Lib.hid (Blk.new (w5.alloc (.cells #[.int .i64 x.op,.string x.s,.int .i64 x.n,.slice A x.l.length cx,.int .i64 x.line] 29)) 29 #[.int .i64 x.op,.string x.s,.int .i64 x.n,.slice A x.l.length cx,.int .i64 x.line])
   have HROW:=Lib.hid (RowT.nil (B:=w2.heap.size+1) (W:=(w5.alloc (.cells #[.int .i64 x.op,.string x.s,.int .i64 x.n,.slice A x.l.length cx,.int .i64 x.line] 29)).alloc (.cells #[.int .i64 x.op,.string x.s,.int .i64 x.n,.slice A x.l.length cx,.int .i64 x.line] 29)))
   clear hs5 hs5' ht5 hok htr hn4 hk4 hn5 hk5
   go_wp2_with (at_builtin;go_loud (refine wpList_append_row (v := .slice none 0 0) (acc:=[]) (B:=w2.heap.size+1) (W:=(w5.alloc (.cells #[.int .i64 x.op,.string x.s,.int .i64 x.n,.slice A x.l.length cx,.int .i64 x.line] 29)).alloc (.cells #[.int .i64 x.op,.string x.s,.int .i64 x.n,.slice A x.l.length cx,.int .i64 x.line] 29)) rfl _ _ rfl rfl HROW.out [(x,.slice A x.l.length cx)] ⟨w5.heap.size+1,0,none⟩ 1 1 rfl rfl (World.news_of_block (by have:=HB.out;rw [World.size_alloc] at this;exact this)) (by intro p hp;simp only [List.mem_singleton] at hp;subst hp;exact ⟨HOK.out,d,TrP.weaken (fun k _ (hk:w4.heap.size≤k)=>⟨by omega,by simp [Value.ownBlock]⟩) HTR5.out⟩) (by simp) (by simp) (by simp;omega) ?_))
   intro g cap w7 hrow7 hgrow7 hat7 hlt7
   have ht7:=TurnR.grown HT5.out hgrow7 (by simp [Value.ownBlock])
   have hs7:=HS5.out.grown hgrow7 (by simp [Value.ownBlock])
   have hn7:=HN5.out.grown hgrow7 (by simp [Value.ownBlock])
   have hk7:=HK5.out.grown hgrow7 (by simp [Value.ownBlock])
   obtain ⟨⟨p0,p1,p2,p3,p4⟩,q0,q1,q2,q3,q4⟩:=hn7.five
   obtain ⟨⟨b0,b1,b2,b3,b4⟩,g0,g1,g2,g3,g4⟩:=hk7.five
   clear a0 a1 a2 a3 a4 f0 f1 f2 f3' f4
   have hq:w.heap.size≠w2.heap.size:=by omega
   have HK7:=Lib.hid (hk7.far (p:=⟨w2.heap.size,3,none⟩) hq (.slice (some ⟨g,0,none⟩) 1 cap))
   have HR7:=Lib.hid (hrow7.far (p:=⟨w2.heap.size,3,none⟩) (by show w2.heap.size<w2.heap.size+1;omega) (.slice (some ⟨g,0,none⟩) 1 cap))
   have HS7:=Lib.hid (hs7.set' (g:=w2.heap.size) (j:=3) (by omega) (.slice (some ⟨g,0,none⟩) 1 cap))
   have HT7:=Lib.hid (TurnR.set (p:=⟨w2.heap.size,3,none⟩) ht7 (by show w.heap.size≤w2.heap.size;omega) (.slice (some ⟨g,0,none⟩) 1 cap))
   clear hrow7 hs7 ht7 hk7 hn7 hgrow7 hat7
   go_wp2
   refine ret_pair (HK7.out.set5 _ _ _ _ _) rfl rfl rfl rfl ?_
   obtain ⟨q1,q2,d7,q3⟩:=fin_rowt hlt HS7.out HT7.out (HR7.out.weaken (B':=w.heap.size+1) (by omega)) (by simp) (.int .i64 20) (.string ⟨#[]⟩) (.int .i64 0) (.slice (some ⟨g,0,none⟩) 1 cap) (.int .i64 (hereF last l).line)
   exact PostS.ok rfl ⟨_,rfl,nd_ok (by decide) (by decide),d7,_,rfl,q3⟩ q1 q2
  | false =>
   rw [hb,if_neg (by decide)] at hy
   go_wp2_with fail
   refine (takes1 HS3.out ⟨#[45]⟩ _ ?hnd _ hb).mono ?_
   case hnd=>simp
   rintro e w4 ⟨rfl,hs4,ht4⟩
   have HS4:Hid (St w4 rb last l):=Lib.hid (by simpa using hs4)
   have HT4:=Lib.hid (TurnR.trans HT3.out ht4)
   have hk4:=hk3.tr ht4 (by omega)
   have hz4:w2.heap.size<w4.heap.size:=(hn3.tr ht4 (by omega)).lt
   clear hs4 ht4 hk3 hn3
   match y,hy with
   | .error (c,ln),hy =>
    have HM:=Lib.hid hy
    clear hy
    go_wp2_with fail
    refine (R.chain _ _ _ HS4.out HM.out).mono ?_
    rintro e w5 ⟨rfl,ht5⟩
    exact ⟨rfl,PostS.err rfl (TurnR.trans HT4.out ht5)⟩
   | .ok ((x,b),r),hy =>
    have HM:=Lib.hid hy
    clear hy
    go_wp2_with fail
    refine (R.chain _ _ _ HS4.out HM.out).mono ?_
    rintro e w5 ⟨⟨_,rfl,_,rfl,hok,d,sl,rfl,htr⟩,hs5,ht5⟩
    obtain ⟨A,cx,rfl⟩:=htr.form
    have HOK:=Lib.hid hok
    have HTR:=Lib.hid (htr.weaken (B':=w.heap.size+1) (by omega))
    have HS5:=Lib.hid hs5
    have HT5:=Lib.hid (TurnR.trans HT4.out ht5)
    have hk5:=hk4.tr ht5 (by omega)
    have K5:=Lib.hid hk5
    obtain ⟨⟨b0,b1,b2,b3,b4⟩,g0,g1,g2,g3,g4⟩:=hk5.five
    clear hok htr hs5 ht5 hk4 hk5
    go_wp2
    refine ret_pair (K5.out.set5 _ _ _ _ _) rfl rfl rfl rfl ?_
    obtain ⟨q1,q2,q3⟩:=fin_old hlt HS5.out HT5.out HOK.out HTR.out
    exact PostS.ok rfl ⟨_,rfl,q3⟩ q1 q2
end
end Go.Proofs.YtjjdmiaonkailaaGreatDoor
