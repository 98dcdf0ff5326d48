/- PlR, AppT, WJJoins, packed. -/
import Derived.Test.YtjjdmiaonkailaaGreatDoorK49
import Derived.Test.YtjjdmiaonkailaaGreatDoorK16
import Derived.Test.YtjjdmiaonkailaaGreatDoorK15
import Derived.Test.YtjjdmiaonkailaaGreatDoorK20
import Derived.Deep.DeepAppendRoom
import Derived.Deep.AppendSrc
import Derived.OwnWalk
import Derived.Test.YtjjdmiaonkailaaGreatDoorK46
import Derived.Test.YtjjdmiaonkailaaGreatDoorK47
import Derived.Deep.CutRange
import Derived.Deep.RegionHeld3
namespace Go.Proofs.YtjjdmiaonkailaaGreatDoor
open Go.RowKit
theorem stmts_len (last:Nat) : ∀ (n:Nat) (l:List Tl) (b ps:List Tree) (r:List Tl),l.length<n→(fixF last).stmts b l=some (.ok (ps,r))→ps.length+r.length≤b.length+l.length
 | 0,_,_,_,_,h,_=>by omega
 | n+1,l,b,ps,r,h,he=>by
  rw [fx_stmts] at he
  unfold stmtsS at he
  by_cases h0:(hereF last l).t.kind=0
  ·rw [if_pos h0] at he
   obtain ⟨rfl,rfl⟩:=ok_inj he
   exact Nat.le_refl _
  rw [if_neg h0] at he
  have hl:=kind_len' h0
  by_cases h1:atF [[125]] l=true
  ·rw [if_pos h1] at he
   obtain ⟨rfl,rfl⟩:=ok_inj he
   exact Nat.le_refl _
  rw [if_neg h1] at he
  by_cases h2:atF [[59]] l=true
  ·rw [if_pos h2] at he
   have:=stmts_len last n _ _ _ _ (by omega) he
   omega
  rw [if_neg h2] at he
  obtain ⟨x,q,h3,h4⟩:=bind_ok' he
  have h5:=(((okFix last).stmt l).1 x q h3).2
  have:=stmts_len last n _ _ _ _ (by omega) h4
  rw [List.length_append] at this
  simp only [List.length_cons,List.length_nil] at this
  omega
theorem prog_len {l:List Tl} (hk : ∀ t ∈ l,1≤t.t.kind) {p:Tree} {r:List Tl} (h:progF (fuelF l) l=some (.ok (p,r))):p.l.length≤l.length:=by
 obtain ⟨ps,h3,_,rfl⟩:=prog_ok hk h
 have:=stmts_len _ (l.length+1) l [] ps [] (by omega) h3
 show ps.length≤l.length
 simpa using this
theorem kids_32 (R:Tree→Bool) (len:Nat) : ∀ (l:List Tree) (i:Nat),kidsB R 32 len i l=l.all fun u=>stmtK u.op&&R u
 | [],_=>rfl
 | u::us,i=>by
  have:partB 32 len i u.op=stmtK u.op:=rfl
  rw [kidsB,this,kids_32 R len us,List.all_cons]
theorem right_block (l:List Tree) (ln:Int):rightB (nd 32 [] l ln)=(decide (l.length≤1073741824)&&l.all fun u=>stmtK u.op&&fitsB 99 u):=by
 have h1:(nd 32 [] l ln).op=32:=rfl
 rw [rightB,h1]
 show (true&&fitStep (fitsB 99) (nd 32 [] l ln))=_
 have h2:(nd 32 [] l ln).s.data.toList=[]:=rfl
 have h3:(nd 32 [] l ln).n=0:=rfl
 have h4:(nd 32 [] l ln).l=l:=rfl
 unfold fitStep
 rw [h1,h2,h3,h4,kids_32]
 have h5:formF 32=some (54,0,1073741824):=rfl
 rw [h5]
 have h6:testB 32 []=true:=rfl
 have h7:numB 32 0=true:=rfl
 have h8:decide ((0:Int)≤(l.length:Int))=true:=by simp
 have h9:decide ((l.length:Int)≤1073741824)=decide (l.length≤1073741824):=by
  by_cases h:l.length≤1073741824
  ·rw [decide_eq_true h,decide_eq_true (by omega)]
  ·rw [decide_eq_false h,decide_eq_false (by omega)]
 simp only [h6,h7,h8,h9,Bool.true_and,Bool.and_true]
theorem right_both {l m:List Tree} {a b c:Int} (h1:rightB (nd 32 [] l a)=true) (h2:rightB (nd 32 [] m b)=true) (h:l.length+m.length≤1073741824):rightB (nd 32 [] (l++m) c)=true:=by
 rw [right_block,Bool.and_eq_true] at h1 h2 ⊢
 rw [List.length_append,List.all_append,h1.2,h2.2]
 exact ⟨decide_eq_true h,rfl⟩
end Go.Proofs.YtjjdmiaonkailaaGreatDoor
namespace Go.Proofs.YtjjdmiaonkailaaGreatDoor
open Go.RowKit Go.Sort
section
variable {P:Program} {ops:Array Oper} {Q:Exit→Act→World→Prop} {a:Act} {w:World} {rest:List Oper} {o:Oper} {K:Act→World→Prop} {E:Prop}
theorem wpList_appendR (hw:Region.wanted o (yielded ops a.tmps)=true) (s x:Operand) (t:TypeId) (hop:o.op=Op.call { callee:=Callee.builtin Builtin.append,args:=#[s,x],argTypes:=#[t,t] })
  (v X:Value) (hs:a.eval s=v) (hx:a.eval x=X) {v':Value} {w':World} (hrun:(Builtin.append_ #[t,t] o.type #[v,X]).run P w = .ok v' w') (h:wpList P ops Q rest (a.put o.dst v') w'):wpList P ops Q (o::rest) a w :=
 wpList_step fun K hK=>by
  rw [if_pos hw]
  unfold Oper.wp
  simp [execOp,hop,resolve,invoke,builtin,hs,hx,hrun,Result.andThen]
  exact hK _ _ h
theorem step_appendR (hw:Region.wanted o (yielded ops a.tmps)=true) (s x:Operand) (t:TypeId) (hop:o.op=Op.call { callee:=Callee.builtin Builtin.append,args:=#[s,x],argTypes:=#[t,t] })
  (v X:Value) (hs:a.eval s=v) (hx:a.eval x=X) {v':Value} {w':World} (hrun:(Builtin.append_ #[t,t] o.type #[v,X]).run P w = .ok v' w') (h:K (a.put o.dst v') w'):if Region.wanted o (yielded ops a.tmps)=true then Oper.wp P o a w K Q else E:=by
 rw [if_pos hw]
 unfold Oper.wp
 simp [execOp,hop,resolve,invoke,builtin,hs,hx,hrun,Result.andThen]
 exact h
theorem step_makeR (hw:Region.wanted o (yielded ops a.tmps)=true) (l c:Operand) (t:TypeId) (hop:o.op=Op.makeSlice t l c)
  (base:Nat) (e:TypeId) (i:TypeInfo) (z:Value) (size:Nat) (h1:P.underlying t=some (.slice e)) (h2:P.info? e=some i) (h3:i.zero=some z) (h4:i.size=size)
  (kl kc:IntKind) (C:Int) (n:Nat) (hl:a.eval l = .int kl 0) (hc:a.eval c = .int kc C) (hC:C=(n:Int)) (b2:i.bytes*n≤281474976710656) (b3:n≤maxLen) (b4:base≤w.heap.size)
  (hK : ∀ w',w'.ownsRow base e size (.slice (some ⟨w.heap.size,0,none⟩) 0 n) 0 []→w.grownBy w' none→K (a.put o.dst (.slice (some ⟨w.heap.size,0,none⟩) 0 n)) w') :
  if Region.wanted o (yielded ops a.tmps)=true then Oper.wp P o a w K Q else E:=by
 rw [if_pos hw]
 obtain ⟨w',hrun,r1,r2⟩:=run_make_own (P:=P) w base t e i z size h1 h2 h3 h4 kl kc n b2 b3 b4
 subst hC
 unfold Oper.wp
 simp [execOp,hop,hl,hc,hrun,Result.andThen]
 exact hK _ r1 r2
end
theorem tlCells_oneJ (p:List Tl) : ∀ u ∈ tlCells p,u.oneCell'=true:=by
 intro u hu
 simp only [tlCells,List.mem_flatMap] at hu
 obtain ⟨t,_,hu⟩:=hu
 simp only [tlCells1,List.mem_cons,List.not_mem_nil,or_false] at hu
 rcases hu with rfl | rfl | rfl | rfl | rfl <;> rfl
theorem tlCells_appendJ (a b:List Tl):tlCells (a++b)=tlCells a++tlCells b:=by simp [tlCells]
theorem app_toks {W:World} {B g k cap B':Nat} {xs:List Value} (ty:TypeId) (hown:W.ownsRow B 37 5 (.slice (some ⟨g,0,none⟩) k cap) k xs) {V:Value} {ps:List Tl} (hV:W.ownsRow B' 37 5 V ps.length (tlCells ps)) (hroom:k+ps.length≤cap) :
  ∃ W',(Builtin.append_ #[23,23] ty #[.slice (some ⟨g,0,none⟩) k cap,V]).run Tryz.prog W = .ok (.slice (some ⟨g,0,none⟩) (k+ps.length) cap) W' ∧
   W'.ownsRow B 37 5 (.slice (some ⟨g,0,none⟩) (k+ps.length) cap) (k+ps.length) (xs++tlCells ps)∧W.grownBy W' (some g):=by
 obtain ⟨i0,hi,hz0,hz1,hz2⟩:=info_parts info_tok
 rcases hV.2 with ⟨rfl,h0⟩ | ⟨g',cap',cur,rfl,_,hg',r⟩
 ·have hps:ps=[]:=List.eq_nil_of_length_eq_zero h0
  subst hps
  have hr:=run_append_room_src (P:=Tryz.prog) W 23 23 ty 37 i0 Tryz.underlying23 hi g 0 k cap (.slice none 0 0) 0 [] (Src.ofNil W Tryz.underlying23 0) (by simpa using hroom) (fun j hj=>by simp at hj) (fun j hj=>by simp at hj)
  refine ⟨_,hr,?_,?_⟩
  ·simpa [tlCells,World.setCells] using hown
  ·exact ⟨rfl,rfl,rfl,Nat.le_refl _,fun _ _ _=>rfl⟩
 ·exact run_append_own_spare W B 23 ty 37 i0 5 Tryz.underlying23 hi hz1 g k cap xs hown ⟨g',0,none⟩ ps.length cap' (tlCells ps) (tlCells_len ps) (fun j u hu=>hV.cells rfl j u hu) (tlCells_oneJ ps) hroom
theorem kids_trp {W:World} : ∀ {d:Nat} {l:List Tree} {v:Value},Kids W d l v→TrP (fun k=>k<W.heap.size) W d l v
 | 0,_,_,h=>h
 | d+1,l,v,h=>by
  obtain ⟨hl,A,c,rfl,h⟩:=h
  refine ⟨hl,A,c,rfl,fun k t hk => ?_⟩
  obtain ⟨a,sl,rfl,hab,hs,c0,c1,c2,c3,c4,hk'⟩:=h k t hk
  exact ⟨a,sl,rfl,⟨hab.1,hab.1,hab.2⟩,hs,c0,c1,c2,c3,c4,kids_trp hk'⟩
theorem add_addA (a:Addr) (m n:Nat):(a.add m).add n=a.add (m+n):=by
 unfold Addr.add
 by_cases hm:m=0
 ·subst hm
  simp
 ·by_cases hn:n=0
  ·subst hn
   simp
  ·simp [hm,hn]
   omega
theorem trp_parts {Bk:Nat→Prop} {W:World} {d:Nat} {l:List Tree} {a:Addr} {c:Nat} (h:TrP Bk W d l (.slice (some a) l.length c)) :
  ∃ l2:List (Tree × Value),l2.map Prod.fst=l∧(∀ j u,(flatN l2)[j]? = some u→W.cell? (a.add j)=some u) ∧ ∀ p,p ∈ l2→p.1.ok ∧ ∃ d,TrP Bk W d p.1.l p.2:=by
 cases d with
 | zero =>
  obtain ⟨rfl,_⟩:=h
  exact ⟨[],rfl,fun j u hu=>by simp [flatN] at hu,fun p hp=>by simp at hp⟩
 | succ d =>
  obtain ⟨_,A,c2,hv,h⟩:=h
  injection hv with hv _ _
  subst hv
  have H : ∀ k,∃ sl:Value,∀ t,l[k]? = some t→t.ok∧(∀ i u,(nodeCells t sl)[i]? = some u→W.cell? (a.add (k*5+i))=some u)∧TrP Bk W d t.l sl:=by
   intro k
   cases hk:l[k]? with
   | none=>exact ⟨.slice none 0 0,fun t ht=>by cases ht⟩
   | some t =>
    obtain ⟨a',sl,ha,hab,hs,q0,q1,q2,q3,q4,hq⟩:=h k t hk
    injection ha with ha
    subst ha
    refine ⟨sl,fun t' ht => ?_⟩
    injection ht with ht
    subst ht
    refine ⟨hs,fun i u hu => ?_,hq⟩
    rw [← add_addA]
    match i,hu with
    | 0,hu=>injection hu with hu;rw [← hu,add_addA];exact q0
    | 1,hu=>injection hu with hu;rw [← hu];exact q1
    | 2,hu=>injection hu with hu;rw [← hu];exact q2
    | 3,hu=>injection hu with hu;rw [← hu];exact q3
    | 4,hu=>injection hu with hu;rw [← hu];exact q4
    | i+5,hu=>simp [nodeCells] at hu
  obtain ⟨S,hS⟩ : ∃ S:Nat→Value,∀ k t,l[k]? = some t→t.ok∧(∀ i u,(nodeCells t (S k))[i]? = some u→W.cell? (a.add (k*5+i))=some u)∧TrP Bk W d t.l (S k):=⟨fun k=>Classical.choose (H k),fun k t ht=>Classical.choose_spec (H k) t ht⟩
  have hat : ∀ k:Nat,(l.zipIdx.map fun p=>(p.1,S p.2))[k]? = (l[k]?).map fun t=>(t,S k):=fun k=>by
   rw [List.getElem?_map,List.getElem?_zipIdx]
   cases l[k]? <;> simp
  refine ⟨l.zipIdx.map fun p=>(p.1,S p.2),?_,fun j u hu => ?_,fun p hp => ?_⟩
  ·rw [List.map_map]
   have:(Prod.fst ∘ fun p:Tree × Nat=>(p.1,S p.2))=Prod.fst:=rfl
   rw [this,List.zipIdx_map_fst]
  ·have hjl:=(List.getElem?_eq_some_iff.1 hu).1
   rw [flatN_len,List.length_map,List.length_zipIdx] at hjl
   have hk:j / 5<l.length:=by omega
   have hlk:l[j / 5]? = some l[j / 5]:=List.getElem?_eq_getElem hk
   have hp:(l.zipIdx.map fun p=>(p.1,S p.2))[j / 5]? = some (l[j / 5],S (j / 5)):=by rw [hat,hlk];rfl
   have h5:=flatN_at (j % 5) hp (Nat.mod_lt _ (by decide))
   rw [show j / 5*5+j % 5=j by omega] at h5
   rw [h5] at hu
   have:=(hS (j / 5) _ hlk).2.1 (j % 5) u hu
   rw [show j / 5*5+j % 5=j by omega] at this
   exact this
  ·obtain ⟨k,hk⟩:=List.getElem?_of_mem hp
   rw [hat] at hk
   cases hlk:l[k]? with
   | none=>rw [hlk] at hk;cases hk
   | some t =>
    rw [hlk] at hk
    injection hk with hk
    subst hk
    exact ⟨(hS k t hlk).1,d,(hS k t hlk).2.2⟩
set_option maxRecDepth 100000 in
theorem app_trees {W:World} {g k cap d:Nat} {acc l:List Tree} {A:Option Addr} {c:Nat} (ty:TypeId) (hr:RowT 0 W acc (.slice (some ⟨g,0,none⟩) k cap)) (hl:TrP (fun b=>b≠g) W d l (.slice A l.length c)) (hroom:k+l.length≤cap) :
  ∃ W',(Builtin.append_ #[27,27] ty #[.slice (some ⟨g,0,none⟩) k cap,.slice A l.length c]).run Tryz.prog W = .ok (.slice (some ⟨g,0,none⟩) (k+l.length) cap) W' ∧
   RowT 0 W' (acc++l) (.slice (some ⟨g,0,none⟩) (k+l.length) cap)∧W.grownBy W' (some g):=by
 obtain ⟨i0,hi,hz0,hz1,hz2⟩:=info_parts node_info
 obtain ⟨l1,rfl,hown,hpl⟩:=hr
 obtain rfl:k=l1.length:=by
  rcases hown.2 with ⟨h0,_⟩ | ⟨g2,cap2,cur,hv,_⟩
  ·cases h0
  ·injection hv
 cases A with
 | none =>
  have hl0:l=[]:=by
   cases l with
   | nil=>rfl
   | cons t l =>
    cases d with
    | zero=>exact absurd hl.1 (by simp)
    | succ d =>
     obtain ⟨_,A2,c2,hv,h⟩:=hl
     obtain ⟨a,sl,ha,_⟩:=h 0 t rfl
     injection hv with hv _ _
     rw [← hv] at ha
     cases ha
  subst hl0
  have hr:(Builtin.append_ #[27,27] ty #[.slice (some ⟨g,0,none⟩) l1.length cap,.slice none ([]:List Tree).length c]).run Tryz.prog W = .ok (.slice (some ⟨g,0,none⟩) l1.length cap) W:=by
   have hnc:l1.length≤cap:=by simpa using hroom
   simp [Builtin.append_,run_underlying Tryz.underlying27,sizeOf,typeInfo,hi,Builtin.lenOf,hnc,run_firstCells_none,storeCells]
  refine ⟨W,hr,?_,⟨rfl,rfl,rfl,Nat.le_refl _,fun _ _ _=>rfl⟩⟩
  rw [List.append_nil]
  exact ⟨l1,rfl,hown,hpl⟩
 | some a =>
  obtain ⟨l2,rfl,hnews,hp2⟩:=trp_parts hl
  rw [List.length_map] at hroom ⊢
  obtain ⟨W',h1,h2,h3⟩:=run_append_own_spare W 0 27 ty 29 i0 5 Tryz.underlying27 hi hz1 g l1.length cap (flatN l1) hown a l2.length c (flatN l2) (by rw [flatN_len];omega) hnews (flatN_oneCell l2 fun p hm=>by obtain ⟨_,d,hd⟩:=hp2 p hm;exact hd.one) hroom
  refine ⟨W',h1,?_,h3⟩
  refine RowT.appended (v := .slice (some ⟨g,0,none⟩) l1.length cap) (fun p hq=>(List.mem_append.1 hq).elim (hpl p) fun hq => ?_) h2 h3 (.inl rfl)
  obtain ⟨h4,d4,h5⟩:=hp2 p hq
  exact ⟨h4,d4,h5.weaken fun k _ hk=>⟨Nat.zero_le _,fun e=>hk (by
   have:some g=some k:=e
   injection this with this
   exact this.symm)⟩⟩
end Go.Proofs.YtjjdmiaonkailaaGreatDoor
namespace Go.Proofs.YtjjdmiaonkailaaGreatDoor
open Go.RowKit Go.Sort
mutual
theorem same_reflK : ∀ (t:Tree),t.same t=true
 | .node o s n l i=>by
  simp only [Tree.same]
  rw [sames_reflK l]
  simp
theorem sames_reflK : ∀ (l:List Tree),sames l l=true
 | []=>rfl
 | t::ts=>by
  simp only [sames]
  rw [same_reflK t,sames_reflK ts]
  rfl
end
theorem same_lineK {l:List Tree} {a b:Int}:(nd 32 [] l a).same (.node 32 ⟨#[]⟩ 0 l b)=true:=by
 unfold nd
 simp only [Tree.same]
 rw [sames_reflK l]
 rfl
theorem node_boxK {w:World} {t:Tree} {A:Option Addr} {c:Nat}:Blk (w.alloc (.cells #[.int .i64 t.op,.string t.s,.int .i64 t.n,.slice A t.l.length c,.int .i64 t.line] 29)) w.heap.size 29 #[.int .i64 t.op,.string t.s,.int .i64 t.n,.slice A t.l.length c,.int .i64 t.line]:=Blk.new w _ _
theorem box_belowK (w:World) (t:Tree) (A:Option Addr) (c:Nat):Below w.heap.size w (w.alloc (.cells #[.int .i64 t.op,.string t.s,.int .i64 t.n,.slice A t.l.length c,.int .i64 t.line] 29)):=(Below.refl _ _).alloc (Nat.le_refl _) _
theorem some_progK {l:List Tl} {y:Except (Int × Int) (Tree × List Tl)} (h:progF (fuelF l) l=some y) (hr:Rise 0 l) : ∀ c ln,y = .error (c,ln)→c≠0∧0≤ln∧ln≤(lastF l:Int):=fun c ln e=>by
 rw [e] at h
 exact prog_err hr h
theorem last_cells {W:World} {B:Nat} {l:List Tl} {A:Option Addr} {c m:Nat} (h:TokSl B W l (.slice A l.length c)) (hm:l.length=m+1) :
  ∃ t g o,A=some ⟨g,o,none⟩∧l.getLast? = some t∧W.cell? ⟨g,o+m*5,none⟩=some (.int .i64 t.t.kind)∧W.cell? ⟨g,o+m*5+1,none⟩=some (.string ⟨t.t.s.toArray⟩):=by
 obtain ⟨_,A9,c9,hv9,hat⟩:=h
 have hlt:m<l.length:=by omega
 obtain ⟨g,o,hA,_,_,hcell⟩:=hat m l[m] (List.getElem?_eq_getElem hlt)
 injection hv9 with hv _ _
 refine ⟨l[m],g,o,by rw [hv,hA],?_,hcell 0 (by omega),hcell 1 (by omega)⟩
 rw [List.getLast?_eq_getElem?,hm,Nat.add_sub_cancel]
 exact List.getElem?_eq_getElem hlt
theorem head_cell {W:World} {B:Nat} {t:Tl} {l:List Tl} {A:Option Addr} {c:Nat} (h:TokSl B W (t::l) (.slice A (t::l).length c)) :
  ∃ g o,A=some ⟨g,o,none⟩∧W.cell? ⟨g,o,none⟩=some (.int .i64 t.t.kind):=by
 obtain ⟨_,A9,c9,hv9,hat⟩:=h
 obtain ⟨g,o,hA,_,_,hcell⟩:=hat 0 t rfl
 injection hv9 with hv _ _
 exact ⟨g,o,by rw [hv,hA],hcell 0 (by omega)⟩
theorem ba_listK (l:List UInt8):(⟨l.toArray⟩:ByteArray).toList=l:=by
 rw [ByteArray.toList_eq]
set_option maxRecDepth 100000 in
set_option maxHeartbeats 16000000 in
theorem wjjoins (w:World) (s:ByteArray) (hs:s.size≤maxLen) (t:ByteArray) (ht:t.size≤maxLen) (hl:LaidJ w) (hr:Ready w) :
  Calls Tryz.prog 6 #[.string s,.string t] w fun e w'=>e = .returned (.bool true)∧Below w.heap.size w w':=by
 have HL:=Lib.hid hl
 have HR:=Lib.hid hr
 obtain ⟨x,hx⟩ : ∃ x,cut2 s=x:=⟨_,rfl⟩
 obtain ⟨y,hy⟩ : ∃ y,cut2 t=y:=⟨_,rfl⟩
 have hxs:x.size≤2000:=by rw [← hx];exact cut2_size s
 have hys:y.size≤2000:=by rw [← hy];exact cut2_size t
 have HCX:=Lib.hid (fun w9=>cut2_calls w9 s hs)
 have HCY:=Lib.hid (fun w9=>cut2_calls w9 t ht)
 rw [hx] at HCX
 rw [hy] at HCY
 have HLEX:=Lib.hid (fun (z:ByteArray) (hz:z.size≤4000) w9 (h9:LaidJ w9)=>lex_calls w9 h9 z (by unfold maxLen;omega))
 clear hl hr hx hy
 go_enter Tryz.func6,Tryz.ntmps6
 go_wp2_with fail
 refine (shown4_calls w HR.out).mono ?_
 rintro e w1 ⟨rfl,hb1⟩
 have HB1:=Lib.hid hb1
 clear hb1
 go_wp2_with fail
 refine (HCX.out w1).mono ?_
 rintro e w1' ⟨rfl,rfl⟩
 go_wp2_with fail
 refine (HLEX.out x (by omega) w1 (HL.out.below HB1.out)).mono ?_
 rintro e w2 h2
 obtain ⟨ps,pa,pe,A1,c1,hlx,rfl,hown1,htok1,hb2,hpl,hrise1,hok1⟩:=h2.toks (by omega)
 have HB2:=Lib.hid (HB1.out.trans (hb2.mono HB1.out.size))
 have HO1:=Lib.hid hown1
 have HT1:=Lib.hid htok1
 have HRI1:=Lib.hid hrise1
 have HOK1:=Lib.hid hok1
 clear h2 hlx hown1 htok1 hb2 hrise1 hok1
 go_wp2_with fail
 refine (HCY.out w2).mono ?_
 rintro e w1' ⟨rfl,rfl⟩
 go_wp2_with fail
 refine (HLEX.out y (by omega) w2 (HL.out.below HB2.out)).mono ?_
 rintro e w3 h3
 obtain ⟨qs,qa,qe,A2,c2,hly,rfl,hown2,htok2,hb3,hql,hrise2,hok2⟩:=h3.toks (by omega)
 have HB3:=Lib.hid (HB2.out.trans (hb3.mono HB2.out.size))
 have HO2:=Lib.hid hown2
 have HT2:=Lib.hid htok2
 have HRI2:=Lib.hid hrise2
 have HOK2:=Lib.hid hok2
 have HO1b:=Lib.hid (own_keep HO1.out (fun k hk=>hb3.block k (HO1.out.lt k hk).2))
 have HT1b:=Lib.hid ((HT1.out.keep fun k hk=>hb3.block k hk).mono hb3.size)
 obtain ⟨y1,hy1⟩:=prog_some ps
 obtain ⟨y2,hy2⟩:=prog_some qs
 have HY1:=Lib.hid hy1
 have HY2:=Lib.hid hy2
 have HE1:=Lib.hid (some_progK hy1 HRI1.out)
 have HE2:=Lib.hid (some_progK hy2 HRI2.out)
 have HP1:=Lib.hid (parse_calls (fuelF ps) ps _ w3 HT1b.out (HR.out.below HB3.out) y1 hy1)
 have HP2:=Lib.hid (fun w9 (h9:Below w3.heap.size w3 w9)=>parse_calls (fuelF qs) qs _ w9 ((HT2.out.keep fun k hk=>h9.block k hk).mono h9.size) (HR.out.below (HB3.out.trans (h9.mono HB3.out.size))) y2 hy2)
 clear h3 hly hown2 htok2 hb3 hrise2 hok2 hy1 hy2 HO1 HT1
 go_wp2_with fail
 refine HP1.out.mono ?_
 rintro e w4 h4
 obtain ⟨t1,d1,B1,m1,l1,e1,rfl,hok3,hk4,hb4,hz1,-,-⟩:=h4.open HE1.out
 have hbx4:=box_belowK w4 t1 B1 m1
 have hbk4:=node_boxK (w:=w4) (t:=t1) (A:=B1) (c:=m1)
 have HB4:=Lib.hid (hb4.trans (hbx4.mono hb4.size))
 have HBK4:=Lib.hid hbk4
 have HK4:=Lib.hid (hk4.below hbx4)
 have HZ1:=Lib.hid hz1
 clear h4 hk4 hb4 hz1 hbx4 hbk4 hok3 HP1
 go_wp2_with fail
 refine (HP2.out _ HB4.out).mono ?_
 rintro e w6 h6
 obtain ⟨t2,d2,B2,m2,l2,e2,rfl,hok6,hk6,hb6,hz2,-,-⟩:=h6.open HE2.out
 have hbx6:=box_belowK w6 t2 B2 m2
 have hbk6:=node_boxK (w:=w6) (t:=t2) (A:=B2) (c:=m2)
 have hb7:=hb6.trans (hbx6.mono hb6.size)
 have hk7:=hk6.below hbx6
 have HZ2:=Lib.hid hz2
 clear h6 hk6 hb6 hz2 hok6 hbx6 HP2
 go_upto_region 6 with fail
 obtain ⟨wf,hwf⟩ : ∃ z,w6.alloc (.cells #[.int .i64 t2.op,.string t2.s,.int .i64 t2.n,.slice B2 t2.l.length m2,.int .i64 t2.line] 29)=z:=⟨_,rfl⟩
 rw [hwf] at hbk6 hb7 hk7 ⊢
 clear hwf
 have HBF:=Lib.hid (HB4.out.trans (hb7.mono HB4.out.size))
 have HBW:=Lib.hid (HB3.out.trans (HBF.out.mono HB3.out.size))
 have HBK1:=Lib.hid (HBK4.out.keep (hb7.block _ HBK4.out.lt))
 have HBK2:=Lib.hid hbk6
 have HK1:=Lib.hid (HK4.out.below hb7)
 have HK2:=Lib.hid hk7
 have HT1f:=Lib.hid (HT1b.out.keep fun k hk=>HBF.out.block k hk)
 have HT2f:=Lib.hid (HT2.out.keep fun k hk=>HBF.out.block k hk)
 have HO1f:=Lib.hid (own_keep HO1b.out (fun k hk=>HBF.out.block k (HO1b.out.lt k hk).2))
 have HO2f:=Lib.hid (own_keep HO2.out (fun k hk=>HBF.out.block k (HO2.out.lt k hk).2))
 have hpl2:ps.length≤2000:=by omega
 have hql2:qs.length≤2000:=by omega
 clear hbk6 hb7 hk7 HBK4 HK4 HB4 HT1b HT2 HO1b HO2 hpl hql
 by_cases hp0:pe=0
 ·subst hp0
  by_cases hq0:qe=0
  ·subst hq0
   by_cases he1:e1=0
   ·subst he1
    by_cases he2:e2=0
    ·subst he2
     obtain ⟨rfl,hr1,r1,rfl⟩:=HZ1.out rfl
     obtain ⟨rfl,hr2,r2,rfl⟩:=HZ2.out rfl
     by_cases hn1:ps.length=0
     ·go_wp2
      go_ret
      exact ⟨rfl,HBW.out⟩
     ·obtain ⟨m,hm⟩ : ∃ m,ps.length=m+1:=⟨ps.length-1,by omega⟩
      obtain ⟨tl,g1,o1,rfl,htl,hk0,hk1⟩:=last_cells HT1f.out hm
      have bl:=ba_listK tl.t.s
      have hnn:¬ (m:Int)+1=0:=by omega
      have z1:(((m:Int)+1)==0)=false:=beq_eq_false_iff_ne.2 hnn
      rw [hm]
      by_cases hsm:tl.t.s=[59]
      ·have b1:((⟨tl.t.s.toArray⟩:ByteArray).toList==[59])=true:=by rw [bl,hsm];rfl
       by_cases hkm:tl.t.kind=5
       ·rw [hkm] at hk0
        cases qs with
        | nil =>
         simp only [List.length_nil]
         clear bl
         go_wp2
         go_ret
         exact ⟨rfl,HBW.out⟩
        | cons q0 qr =>
         obtain ⟨g2,o2,rfl,hh0⟩:=head_cell HT2f.out
         simp only [List.length_cons] at hql2 ⊢
         have hnn2:¬ (qr.length:Int)+1=0:=by omega
         have z2:(((qr.length:Int)+1)==0)=false:=beq_eq_false_iff_ne.2 hnn2
         by_cases hkq:q0.t.kind=1
         ·have hh1:=hh0
          rw [hkq] at hh1
          clear hh0
          obtain ⟨hp1,ln3,hy3⟩:t1=nd 32 [] t1.l t1.line ∧ ∃ ln3:Int,progF (fuelF (ps++q0::qr)) (ps++q0::qr)=some (.ok (nd 32 [] (t1.l++t2.l) ln3,[])):=by
           obtain ⟨ln,h1,h2,_⟩:=joins_read (fun t ht=>(HOK1.out t ht).k0) (fun t ht=>(HOK2.out t ht).k0) ⟨tl,htl,hkm,hsm⟩ hkq HY1.out HY2.out
           exact ⟨h2,ln,h1⟩
          have hr3:rightB (nd 32 [] (t1.l++t2.l) ln3)=true:=by
           have g1:=prog_len (fun t ht=>(HOK1.out t ht).k0) HY1.out
           have g2:=prog_len (fun t ht=>(HOK2.out t ht).k0) HY2.out
           obtain ⟨ln,_,h2,h3⟩:=joins_read (fun t ht=>(HOK1.out t ht).k0) (fun t ht=>(HOK2.out t ht).k0) ⟨tl,htl,hkm,hsm⟩ hkq HY1.out HY2.out
           rw [h2] at hr1
           rw [h3] at hr2
           simp only [List.length_cons] at g2
           exact right_both hr1 hr2 (by omega)
          have hl1:t1.l.length≤2000:=Nat.le_trans (prog_len (fun t ht=>(HOK1.out t ht).k0) HY1.out) hpl2
          have hl2:t2.l.length≤2001:=by
           have:=prog_len (fun t ht=>(HOK2.out t ht).k0) HY2.out
           simp only [List.length_cons] at this
           omega
          have HY3:=Lib.hid hy3
          have HR3:=Lib.hid hr3
          have HV1:Hid (wf.ownsRow w1.heap.size 37 5 (.slice (some ⟨g1,o1,none⟩) (m+1) c1) ps.length (tlCells ps)):=Lib.hid (by have:=HO1f.out;rw [hm] at this ⊢;exact this)
          have HV2:Hid (wf.ownsRow w2.heap.size 37 5 (.slice (some ⟨g2,o2,none⟩) (qr.length+1) c2) (q0::qr).length (tlCells (q0::qr))):=HO2f
          have HOKB:Hid (∀ t ∈ ps++q0::qr,TokOk t):=Lib.hid fun t ht=>(List.mem_append.1 ht).elim (HOK1.out t) (HOK2.out t)
          obtain ⟨i0,hi,hz0,hz3,hz4⟩:=info_parts info_tok
          have hmi:(ps.length:Int)=(m:Int)+1:=by omega
          clear hp1 hy3 hr3 hr1 hr2 HZ1 HZ2 htl bl HO1f HO2f HT1f HT2f
          go_wp2_with (at_make;refine wpList_make_own _ (by rfl) _ _ 23 rfl wf.heap.size 37 i0 _ 5 Tryz.underlying23 hi hz0 hz3 .i64 .i64 ((m:Int)+1+((qr.length:Int)+1)) (m+1+(qr.length+1)) (by rfl) (by rfl) (by omega) ?mb ?ml (Nat.le_refl _) ?_)
          case mb=>rw [hz4];omega
          case ml=>simp only [maxLen];omega
          intro w8 hown8 hg8
          have hb8:Below wf.heap.size wf w8:=⟨hg8.os,hg8.tape,hg8.output,hg8.size,fun k hk=>hg8.block k hk (by simp)⟩
          obtain ⟨w9,hr9,hown9,hg9⟩:=app_toks 23 hown8 (own_keep HV1.out (fun k hk=>hb8.block k (HV1.out.lt k hk).2)) (by omega)
          rw [hm,Nat.zero_add] at hr9 hown9
          have hb9:Below wf.heap.size wf w9:=hb8.grown hg9 hb8.size (fun k e=>by injection e with e;omega)
          obtain ⟨w10,hr10,hown10,hg10⟩:=app_toks 23 hown9 (own_keep HV2.out (fun k hk=>hb9.block k (HV2.out.lt k hk).2)) (by simp only [List.length_cons];omega)
          rw [List.length_cons] at hr10 hown10
          have hb10:Below wf.heap.size wf w10:=hb9.grown hg10 hb9.size (fun k e=>by injection e with e;omega)
          rw [List.nil_append,← tlCells_appendJ] at hown10
          have htok10:=own_toks hown10 (by simp only [List.length_append,List.length_cons];omega) (by simp only [List.length_append,List.length_cons];omega) HOKB.out
          have HB10:=Lib.hid hb10
          have HP10:=Lib.hid (parse_calls (fuelF (ps++q0::qr)) (ps++q0::qr) _ w10 htok10 (HR.out.below (HBW.out.trans (hb10.mono HBW.out.size))) _ HY3.out)
          clear hown8 hg8 hb8 hown9 hg9 hb9 hown10 hg10 hb10 htok10 hi hz0 hz3 hz4
          go_wp2_with (at_builtin;first
           | refine wpList_appendR (by rfl) _ _ 23 rfl _ _ rfl rfl hr9 ?_
           | refine wpList_appendR (by rfl) _ _ 23 rfl _ _ rfl rfl hr10 ?_)
          refine HP10.out.mono ?_
          rintro e w11 h11
          obtain ⟨t3,d3,B3,m3,l3,e3,rfl,hok11,hk11,hb11,hz3,-,hc3⟩:=h11.open (last:=0) (fun _ _ h=>by cases h)
          have he3:=hc3 _ _ rfl
          rw [HR3.out,if_pos rfl] at he3
          subst he3
          obtain ⟨rfl,-,r3,hq3⟩:=hz3 rfl
          obtain rfl:nd 32 [] (t1.l++t2.l) ln3=t3:=by
           injection hq3 with hq3
           injection hq3
          have hbx11:=box_belowK w11 (nd 32 [] (t1.l++t2.l) ln3) B3 m3
          have hbk11:=node_boxK (w:=w11) (t:=nd 32 [] (t1.l++t2.l) ln3) (A:=B3) (c:=m3)
          have hb12:=(HB10.out.trans (hb11.mono HB10.out.size)).trans (hbx11.mono (HB10.out.trans (hb11.mono HB10.out.size)).size)
          have hk12:=hk11.below hbx11
          clear h11 hk11 hb11 hbx11 hc3 hz3 hq3 hok11 hr9 hr10 HP10
          go_upto_region 9 with fail
          obtain ⟨wg,hwg⟩ : ∃ z,w11.alloc (.cells #[.int .i64 (nd 32 [] (t1.l++t2.l) ln3).op,.string (nd 32 [] (t1.l++t2.l) ln3).s,.int .i64 (nd 32 [] (t1.l++t2.l) ln3).n,.slice B3 (nd 32 [] (t1.l++t2.l) ln3).l.length m3,.int .i64 (nd 32 [] (t1.l++t2.l) ln3).line] 29)=z:=⟨_,rfl⟩
          rw [hwg] at hbk11 hb12 hk12 ⊢
          clear hwg
          have HBG:=Lib.hid hb12
          have hbx1:=HBK1.out.keep (hb12.block _ HBK1.out.lt)
          have hbx2:=HBK2.out.keep (hb12.block _ HBK2.out.lt)
          have HX1:=Lib.hid hbx1
          have HX2:=Lib.hid hbx2
          have HX3:=Lib.hid hbk11
          have hx1l:=hbx1.lt
          have hx2l:=hbx2.lt
          have hx3l:=hbk11.lt
          have HKa:=Lib.hid (kids_trp (HK1.out.below hb12))
          have HKb:=Lib.hid (kids_trp (HK2.out.below hb12))
          have HKc:=Lib.hid hk12
          have HBZ:=Lib.hid (HBW.out.trans (hb12.mono HBW.out.size))
          have SC:Hid (∀ w9:World,Below wg.heap.size wg w9→(w9.cell? ⟨w4.heap.size,3,none⟩=some (.slice B1 t1.l.length m1)∧w9.cell? ⟨w6.heap.size,3,none⟩=some (.slice B2 t2.l.length m2)∧w9.cell? ⟨w11.heap.size,0,none⟩=some (.int .i64 (nd 32 [] (t1.l++t2.l) ln3).op)∧w9.cell? ⟨w11.heap.size,1,none⟩=some (.string (nd 32 [] (t1.l++t2.l) ln3).s)∧w9.cell? ⟨w11.heap.size,2,none⟩=some (.int .i64 (nd 32 [] (t1.l++t2.l) ln3).n)∧w9.cell? ⟨w11.heap.size,3,none⟩=some (.slice B3 (nd 32 [] (t1.l++t2.l) ln3).l.length m3)∧w9.cell? ⟨w11.heap.size,4,none⟩=some (.int .i64 (nd 32 [] (t1.l++t2.l) ln3).line))):=Lib.hid fun w9 h9=>by
           have q1:=(HX1.out.keep (h9.block _ hx1l)).cell 3
           have q2:=(HX2.out.keep (h9.block _ hx2l)).cell 3
           obtain ⟨⟨r0,r1,r2,r3,r4⟩,-⟩:=(HX3.out.keep (h9.block _ hx3l)).five
           exact ⟨q1,q2,r0,r1,r2,r3,r4⟩
          obtain ⟨j0,hj,hj0,hj3,hj4⟩:=info_parts node_info
          have hnl:((t1.l.length:Int)+(t2.l.length:Int))=((t1.l.length+t2.l.length:Nat):Int):=by omega
          obtain ⟨w5,hrun5,hb5,hrow5⟩ : ∃ w5,(Instr.makeSlice 27 (.int .i64 0) (.int .i64 ((t1.l.length:Int)+(t2.l.length:Int)))).run Tryz.prog wg.drew = .ok (.slice (some ⟨wg.heap.size,0,none⟩) 0 (t1.l.length+t2.l.length)) w5∧Below wg.heap.size wg w5∧RowT 0 w5 [] (.slice (some ⟨wg.heap.size,0,none⟩) 0 (t1.l.length+t2.l.length)):=by
           obtain ⟨w5,q1,h5,g5⟩:=run_make_own (P:=Tryz.prog) wg.drew 0 27 29 j0 _ 5 Tryz.underlying27 hj hj0 hj3 .i64 .i64 (t1.l.length+t2.l.length) (by rw [hj4];omega) (by simp only [maxLen];omega) (Nat.zero_le _)
           rw [hnl]
           exact ⟨w5,q1,((Below.refl _ _).drew).trans ⟨g5.os,g5.tape,g5.output,g5.size,fun k hk=>g5.block k hk (by simp)⟩,[],rfl,h5,fun p hp=>by simp at hp⟩
          have s5:=SC.out _ hb5
          clear hnl
          have HA1:Hid (∀ w5:World,Below wg.heap.size wg w5→RowT 0 w5 [] (.slice (some ⟨wg.heap.size,0,none⟩) 0 (t1.l.length+t2.l.length)) → ∃ w6',(Builtin.append_ #[27,27] 27 #[.slice (some ⟨wg.heap.size,0,none⟩) 0 (t1.l.length+t2.l.length),.slice B1 t1.l.length m1]).run Tryz.prog w5 = .ok (.slice (some ⟨wg.heap.size,0,none⟩) t1.l.length (t1.l.length+t2.l.length)) w6'∧RowT 0 w6' t1.l (.slice (some ⟨wg.heap.size,0,none⟩) t1.l.length (t1.l.length+t2.l.length))∧Below wg.heap.size wg w6'):=Lib.hid fun w5 h5 r5=>by
           have htr:TrP (fun b=>b≠wg.heap.size) w5 d1 t1.l (.slice B1 t1.l.length m1):=(TrP.turn (fun k hk hs=>h5.block k hs) h5.size HKa.out).weaken fun k _ hk=>by omega
           obtain ⟨w6',q1,q2,q3⟩:=app_trees 27 r5 htr (by omega)
           rw [Nat.zero_add] at q1 q2
           exact ⟨w6',q1,q2,h5.grown q3 h5.size (fun k e=>by injection e with e;omega)⟩
          have HA2:Hid (∀ w5:World,Below wg.heap.size wg w5→RowT 0 w5 t1.l (.slice (some ⟨wg.heap.size,0,none⟩) t1.l.length (t1.l.length+t2.l.length)) → ∃ w6':World,∃ d:Nat,(Builtin.append_ #[27,27] 27 #[.slice (some ⟨wg.heap.size,0,none⟩) t1.l.length (t1.l.length+t2.l.length),.slice B2 t2.l.length m2]).run Tryz.prog w5 = .ok (.slice (some ⟨wg.heap.size,0,none⟩) (t1.l.length+t2.l.length) (t1.l.length+t2.l.length)) w6'∧Kids w6' d (t1.l++t2.l) (.slice (some ⟨wg.heap.size,0,none⟩) (t1.l.length+t2.l.length) (t1.l.length+t2.l.length))∧Below wg.heap.size wg w6'):=Lib.hid fun w5 h5 r5=>by
           have htr:TrP (fun b=>b≠wg.heap.size) w5 d2 t2.l (.slice B2 t2.l.length m2):=(TrP.turn (fun k hk hs=>h5.block k hs) h5.size HKb.out).weaken fun k _ hk=>by omega
           obtain ⟨w6',q1,q2,q3⟩:=app_trees 27 r5 htr (by omega)
           obtain ⟨d,hd⟩:=q2.trees (by rw [List.length_append];unfold maxLen;omega)
           exact ⟨w6',d,q1,hd.kids,h5.grown q3 h5.size (fun k e=>by injection e with e;omega)⟩
          have HSM:Hid (∀ (w9:World) (d:Nat) (v:Value),Below wg.heap.size wg w9→Kids w9 d (t1.l++t2.l) v→Calls Tryz.prog 19 #[.agg #[.int .i64 (nd 32 [] (t1.l++t2.l) ln3).op,.string (nd 32 [] (t1.l++t2.l) ln3).s,.int .i64 (nd 32 [] (t1.l++t2.l) ln3).n,.slice B3 (nd 32 [] (t1.l++t2.l) ln3).l.length m3,.int .i64 (nd 32 [] (t1.l++t2.l) ln3).line],.agg #[.int .i64 32,.string ⟨#[]⟩,.int .i64 0,v,.int .i64 0]] w9 fun e w'=>e = .returned (.bool true)∧Below w9.heap.size w9 w'):=Lib.hid fun w9 d v h9 hk=>by
           have h:=psame_calls d3 d w9 (nd 32 [] (t1.l++t2.l) ln3) (.node 32 ⟨#[]⟩ 0 (t1.l++t2.l) 0) _ _ (HKc.out.below h9) hk
           rw [same_lineK] at h
           exact h
          have hd0:Below wg.heap.size wg wg.drew:=(Below.refl _ _).drew
          have hwr:IntKind.i64.wrap ((t1.l.length:Int)+(t2.l.length:Int))=(t1.l.length:Int)+(t2.l.length:Int):=Go.IntWalk.i64_in _ (by omega)
          obtain ⟨⟨x0,x1,x2,x3,x4⟩,-⟩:=hbx1.five
          obtain ⟨⟨y0,y1,y2,y3,y4⟩,-⟩:=hbx2.five
          obtain ⟨⟨u0,u1,u2,u3,u4⟩,-⟩:=hbk11.five
          clear hb12 hbx1 hbx2 hbk11 hk12 x0 x1 x2 x4 y0 y1 y2 y4
          generalize nd 32 [] (t1.l++t2.l) ln3=T3 at *
          go_region_held3 (fun w9=>(w9.cell? ⟨w4.heap.size,3,none⟩=some (.slice B1 t1.l.length m1)∧w9.cell? ⟨w6.heap.size,3,none⟩=some (.slice B2 t2.l.length m2)∧w9.cell? ⟨w11.heap.size,0,none⟩=some (.int .i64 T3.op)∧w9.cell? ⟨w11.heap.size,1,none⟩=some (.string T3.s)∧w9.cell? ⟨w11.heap.size,2,none⟩=some (.int .i64 T3.n)∧w9.cell? ⟨w11.heap.size,3,none⟩=some (.slice B3 T3.l.length m3)∧w9.cell? ⟨w11.heap.size,4,none⟩=some (.int .i64 T3.line))) (first
           | exact SC.out _ (by assumption)
           | go_keep) (first
           | (have q7:=HA2.out w6' hb6' hrow6;obtain ⟨w7,d7,hr7,hk7,hb7⟩:=q7;refine step_appendR (by kernel_rfl) _ _ 27 (by rfl) _ _ (by rfl) (by rfl) hr7 ?_;have s7:=SC.out _ hb7)
           | (have q6:=HA1.out w5 hb5 hrow5;obtain ⟨w6',hr6,hrow6,hb6'⟩:=q6;refine step_appendR (by kernel_rfl) _ _ 27 (by rfl) _ _ (by rfl) (by rfl) hr6 ?_;have s6:=SC.out _ hb6')
           | (rw [hrun5];simp only [Result.andThen,Oper.upon])
           | (go_at_call 19;refine (HSM.out _ _ _ hb7 hk7).mono ?_;rintro e w8 ⟨rfl,hb8⟩;have hb8':=hb7.trans (hb8.mono hb7.size)))
          all_goals
           go_wp2
           go_ret
           exact ⟨rfl,HBZ.out.trans (hb8'.mono HBZ.out.size)⟩
         ·have hkq2:(q0.t.kind != 1)=true:=by simpa using hkq
          clear bl
          go_wp2
          go_ret
          exact ⟨rfl,HBW.out⟩
       ·clear bl
        go_wp2
        go_ret
        exact ⟨rfl,HBW.out⟩
      ·have b1:((⟨tl.t.s.toArray⟩:ByteArray).toList==[59])=false:=by rw [bl];simpa using hsm
       clear bl
       go_wp2
       go_ret
       exact ⟨rfl,HBW.out⟩
    ·go_wp2
     go_ret
     exact ⟨rfl,HBW.out⟩
   ·go_wp2
    go_ret
    exact ⟨rfl,HBW.out⟩
  ·go_wp2
   go_ret
   exact ⟨rfl,HBW.out⟩
 ·go_wp2
  go_ret
  exact ⟨rfl,HBW.out⟩
end Go.Proofs.YtjjdmiaonkailaaGreatDoor
