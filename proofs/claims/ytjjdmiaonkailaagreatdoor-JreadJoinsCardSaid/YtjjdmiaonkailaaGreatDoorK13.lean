/- Walks and plain laws, packed: LexL. -/
import Derived.Test.YtjjdmiaonkailaaGreatDoorK12
import Derived.Deep.AppendLies
import Derived.WalkMore
namespace Go.Proofs.YtjjdmiaonkailaaGreatDoor
section
open Go.RowKit Go.Sort Go.Shelf
attribute [local go_sem] Oper.semAt_some
theorem wpListIn_append_lies {F:Fence} {n0:Nat} {P:Program} (w:World) {ops:Array Oper} {rest:List Oper} {o:Oper} {a:Act} {Q:Exit→Act→World→Prop} (hgd:o.guard=none) (s x:Operand) (t:TypeId)
  (ho:o.op = .call { callee := .builtin .append,args:=#[s,x],argTypes:=#[t,t] })
  (base:Nat) (e:TypeId) (i:TypeInfo) (z:Value) (size bytes:Nat) (ht:P.underlying t=some (.slice e)) (hi:P.info? e=some i) (hz:i.zero=some z)
  (hsize:i.size=size) (hby:i.bytes=bytes) (hzs:z.cells.size=size) (hsz:0<size)
  (v:Value) (n:Nat) (xs:List Value) (hs:a.eval s=v) (hown:w.ownsRow base e size v n xs)
  (ad:Addr) (m c:Nat) (news:List Value) (hx:a.eval x = .slice (some ad) m c) (hl:news.length=m*size) (hnews : ∀ j u,news[j]? = some u→w.cell? (ad.add j)=some u) (h1 : ∀ u ∈ news,u.oneCell'=true)
  (hm:0<m) (h63:n+m≤maxLen) (hbytes:(n+m)*bytes≤140737488355328) (hbase:base≤w.heap.size) (H:Nat) (hH:w.heap.size=H)
  (h : ∀ g cap w',w'.ownsRow base e size (.slice (some ⟨g,0,none⟩) (n+m) cap) (n+m) (xs++news)→w.grownBy w' v.ownBlock→(v.ownBlock=some g∨g=H)→g<w'.heap.size→wpListIn F n0 P ops Q rest (a.put o.dst (.slice (some ⟨g,0,none⟩) (n+m) cap)) w') :
  wpListIn F n0 P ops Q (o::rest) a w:=by
 refine wpListIn_plain hgd fun K hK' => ?_
 obtain ⟨g,cap,w',hrun,r1,r2,r3,r4⟩:=run_append_lies (P:=P) (w:=w) t o.type base e i z size bytes ht hi hz hsize hby hzs hsz v n xs hown ad m c news hl hnews h1 hm h63 hbytes hbase H hH
 unfold Oper.wpIn
 refine ⟨?_,?_⟩
 ·simp [Oper.about,ho,resolve,Target.leads,Sem.run_pure]
 ·rw [Oper.semAt_plain F _ _ (by rw [ho];intro c hc';cases hc')]
  simp [execOp,ho,resolve,invoke,builtin,hs,hx,hrun,Result.andThen]
  exact hK' _ _ (h g cap w' r1 r2 r3 r4)
def tlCells1 (t:Tl):List Value:=[.int .i64 t.t.kind,.string ⟨t.t.s.toArray⟩,.int .i64 t.t.n,.int .i64 t.line,.bool t.nl]
def tlCells (p:List Tl):List Value:=p.flatMap tlCells1
theorem tlCells_append (a b:List Tl):tlCells (a++b)=tlCells a++tlCells b:=by simp [tlCells]
theorem info_tok:(Tryz.prog.info? 37).map (fun i=>(i.zero,i.size,i.bytes))=some (some (.agg #[.int .i64 0,.string ⟨#[]⟩,.int .i64 0,.int .i64 0,.bool false]),5,48):=by kernel_rfl
theorem turnP (W:World) (l:Nat) (o:Obj):Turn (fun k=>k=l) W (W.putObj l o) :=
 (Turn.refl _ W).grown (grownBy_putObj' W l o) (fun k _ e=>by injection e with e;exact e.symm)
structure LexJ (w:World) (s:ByteArray) (st:Obj) (p:List Tl) (F:Nat→Prop) (W:World):Prop where
 rc:W.heap[w.heap.size+1+1+1+1+1]? = some st
 dd:W.heap[w.heap.size+1+1+1+1]? = some (.deferred (some []))
 sb:Blk W (w.heap.size+1+1+1) 9 #[.string s]
 ln:Blk W (w.heap.size+1+1) 3 #[.int .i64 0]
 wr:Blk W (w.heap.size+1) 24 #[.int .i64 0]
 out : ∃ A cap,Blk W w.heap.size 23 #[.slice A p.length cap]∧W.ownsRow (w.heap.size+1+1+1+1+1+1) 37 5 (.slice A p.length cap) p.length (tlCells p) ∧
  ∀ k,F k ↔ (k<w.heap.size+1+1+1+1+1+1∨(Value.slice A p.length cap).ownBlock=some k)
 low:Below w.heap.size w W
structure LexX (w:World) (st:Obj) (line:Nat) (e0:Int) (W:World):Prop where
 rc:W.heap[w.heap.size+1+1+1+1+1]? = some st
 dd:W.heap[w.heap.size+1+1+1+1]? = some (.deferred (some []))
 ln:Blk W (w.heap.size+1+1) 3 #[.int .i64 line]
 wr:Blk W (w.heap.size+1) 24 #[.int .i64 e0]
 low:Below w.heap.size w W
section
variable {w:World} {s:ByteArray} {st:Obj} {p:List Tl} {F:Nat→Prop} {W W':World}
theorem LexJ.size (h:LexJ w s st p F W):w.heap.size+1+1+1+1+1<W.heap.size:=(Array.getElem?_eq_some_iff.1 h.rc).1
theorem LexJ.foot (h:LexJ w s st p F W) (k:Nat) (hk:F k):k<W.heap.size:=by
 obtain ⟨A,cap,_,hown,hF⟩:=h.out
 rcases (hF k).1 hk with h1 | h1
 ·have:=h.size;omega
 ·exact (hown.lt k h1).2
theorem LexJ.keep (h:LexJ w s st p F W) (hT:Turn (fun k=>¬ F k) W W'):LexJ w s st p F W':=by
 have hsz:=h.size
 obtain ⟨A,cap,h1,hown,hF⟩:=h.out
 have e : ∀ k,F k→k<W.heap.size→W'.heap[k]? = W.heap[k]? := fun k hk hlt=>hT.block k hlt (fun hn=>hn hk)
 have e' : ∀ k,k<w.heap.size+1+1+1+1+1+1→W'.heap[k]? = W.heap[k]? := fun k hk=>e k ((hF k).2 (.inl hk)) (by omega)
 exact ⟨(e' _ (by omega)).trans h.rc,(e' _ (by omega)).trans h.dd,h.sb.keep (e' _ (by omega)),h.ln.keep (e' _ (by omega)),h.wr.keep (e' _ (by omega)),
  ⟨A,cap,h1.keep (e' _ (by omega)),own_keep hown (fun k hk=>e k ((hF k).2 (.inr hk)) (hown.lt k hk).2),hF⟩,
  ⟨hT.os.trans h.low.os,hT.tape.trans h.low.tape,hT.output.trans h.low.output,Nat.le_trans h.low.size hT.size,fun k hk=>(e' k (by omega)).trans (h.low.block k hk)⟩⟩
theorem LexJ.turned (h:LexJ w s st p F W) (st':Obj):LexJ w s st' p F (W.putObj (w.heap.size+1+1+1+1+1) st'):=by
 have hsz:=h.size
 have hT:=turnP W (w.heap.size+1+1+1+1+1) st'
 obtain ⟨A,cap,h1,hown,hF⟩:=h.out
 have hne : ∀ k,(Value.slice A p.length cap).ownBlock=some k→k≠w.heap.size+1+1+1+1+1:=fun k hk=>by have:=(hown.lt k hk).1;omega
 have e : ∀ k,k≠w.heap.size+1+1+1+1+1→k<W.heap.size→(W.putObj (w.heap.size+1+1+1+1+1) st').heap[k]? = W.heap[k]? := fun k hk hlt=>hT.block k hlt hk
 exact ⟨World.putObj_heap_same hsz,(e _ (by omega) (by omega)).trans h.dd,h.sb.keep (e _ (by omega) (by omega)),h.ln.keep (e _ (by omega) (by omega)),h.wr.keep (e _ (by omega) (by omega)),
  ⟨A,cap,h1.keep (e _ (by omega) (by omega)),own_keep hown (fun k hk=>e k (hne k hk) (hown.lt k hk).2),hF⟩,
  h.low.grown (grownBy_putObj' W (w.heap.size+1+1+1+1+1) st') h.low.size (fun k e=>by injection e with e;omega)⟩
theorem LexX.turned {line:Nat} {e0:Int} (h:LexX w st line e0 W) (st':Obj):LexX w st' line e0 (W.putObj (w.heap.size+1+1+1+1+1) st'):=by
 have hsz:=(Array.getElem?_eq_some_iff.1 h.rc).1
 have hT:=turnP W (w.heap.size+1+1+1+1+1) st'
 have e : ∀ k,k≠w.heap.size+1+1+1+1+1→k<W.heap.size→(W.putObj (w.heap.size+1+1+1+1+1) st').heap[k]? = W.heap[k]? := fun k hk hlt=>hT.block k hlt hk
 exact ⟨World.putObj_heap_same hsz,(e _ (by omega) (by omega)).trans h.dd,h.ln.keep (e _ (by omega) (by omega)),h.wr.keep (e _ (by omega) (by omega)),
  h.low.grown (grownBy_putObj' W (w.heap.size+1+1+1+1+1) st') h.low.size (fun k e=>by injection e with e;omega)⟩
end
theorem alloc6 (w:World) (a b c d e f:Obj) (k:Nat):((((((w.alloc a).alloc b).alloc c).alloc d).alloc e).alloc f).heap[k]? =
  if k=w.heap.size then some a else if k=w.heap.size+1 then some b else if k=w.heap.size+1+1 then some c else if k=w.heap.size+1+1+1 then some d else if k=w.heap.size+1+1+1+1 then some e else if k=w.heap.size+1+1+1+1+1 then some f else w.heap[k]? := by
 show ((((((w.heap.push a).push b).push c).push d).push e).push f)[k]? = _
 simp only [Array.getElem?_push,Array.size_push]
 split <;> rename_i h6
 ·subst h6
  rw [if_neg (by omega),if_neg (by omega),if_neg (by omega),if_neg (by omega),if_neg (by omega)]
 ·split <;> rename_i h5
  ·subst h5
   rw [if_neg (by omega),if_neg (by omega),if_neg (by omega),if_neg (by omega)]
  ·split <;> rename_i h4
   ·subst h4
    rw [if_neg (by omega),if_neg (by omega),if_neg (by omega)]
   ·split <;> rename_i h3
    ·subst h3
     rw [if_neg (by omega),if_neg (by omega)]
    ·split <;> rename_i h2
     ·subst h2
      rw [if_neg (by omega)]
     ·split <;> rename_i h1
      ·rfl
      ·rfl
theorem lexJ_init (w:World) (s:ByteArray) (st:Obj):LexJ w s st [] (fun k=>k<w.heap.size+1+1+1+1+1+1∨(Value.slice none 0 0).ownBlock=some k)
  ((((((w.alloc (.cells #[.slice none 0 0] 23)).alloc (.cells #[.int .i64 0] 24)).alloc (.cells #[.int .i64 0] 3)).alloc (.cells #[.string s] 9)).alloc (.deferred (some []))).alloc st):=by
 refine ⟨?_,?_,?_,?_,?_,⟨none,0,?_,?_,fun k=>Iff.rfl⟩,?_⟩
 ·rw [alloc6,if_neg (by omega),if_neg (by omega),if_neg (by omega),if_neg (by omega),if_neg (by omega),if_pos rfl]
 ·rw [alloc6,if_neg (by omega),if_neg (by omega),if_neg (by omega),if_neg (by omega),if_pos rfl]
 ·unfold Blk;rw [alloc6,if_neg (by omega),if_neg (by omega),if_neg (by omega),if_pos rfl]
 ·unfold Blk;rw [alloc6,if_neg (by omega),if_neg (by omega),if_pos rfl]
 ·unfold Blk;rw [alloc6,if_neg (by omega),if_pos rfl]
 ·unfold Blk;rw [alloc6,if_pos rfl];rfl
 ·exact World.ownsRow_nil _ _ 37 5
 ·exact (((((((Below.refl _ w).alloc (Nat.le_refl _) _).alloc (by simp) _).alloc (by simp;omega) _).alloc (by simp;omega) _).alloc (by simp;omega) _).alloc (by simp;omega) _)
def LexOut (w:World) (s:List UInt8) (e:Ending) (w':World):Prop :=
 ∃ A cap,e = .returned (.tuple #[.slice A (lexF s).1.length cap,.int .i64 ((lexF s).2.1:Nat),.int .i64 (lexF s).2.2]) ∧
  w'.ownsRow w.heap.size 37 5 (.slice A (lexF s).1.length cap) (lexF s).1.length (tlCells (lexF s).1)∧Below w.heap.size w w'
theorem lexJ_push {w:World} {s:ByteArray} {st:Obj} {p:List Tl} {F:Nat→Prop} {W w1:World} (h:LexJ w s st p F W) {A:Option Addr} {cap:Nat} (hb:Blk W w.heap.size 23 #[.slice A p.length cap])
  (hown:W.ownsRow (w.heap.size+1+1+1+1+1+1) 37 5 (.slice A p.length cap) p.length (tlCells p)) (hF : ∀ k,F k ↔ (k<w.heap.size+1+1+1+1+1+1∨(Value.slice A p.length cap).ownBlock=some k))
  {X:Obj} {t:Tl} {g cap1:Nat} (hown1:w1.ownsRow (w.heap.size+1+1+1+1+1+1) 37 5 (.slice (some ⟨g,0,none⟩) (p.length+1) cap1) (p.length+1) (tlCells p++tlCells1 t))
  (hgr:(W.alloc X).grownBy w1 (Value.slice A p.length cap).ownBlock) (hat:(Value.slice A p.length cap).ownBlock=some g∨g=W.heap.size+1) :
  LexJ w s st (p++[t]) (fun k=>k<w.heap.size+1+1+1+1+1+1∨(Value.slice (some ⟨g,0,none⟩) (p++[t]).length cap1).ownBlock=some k) (w1.setCell ⟨w.heap.size,0,none⟩ (.slice (some ⟨g,0,none⟩) (p.length+1) cap1)) ∧
  KptL F W (w1.setCell ⟨w.heap.size,0,none⟩ (.slice (some ⟨g,0,none⟩) (p.length+1) cap1)) (fun k=>k<w.heap.size+1+1+1+1+1+1∨(Value.slice (some ⟨g,0,none⟩) (p++[t]).length cap1).ownBlock=some k):=by
 have hsz:=h.size
 have hge : ∀ k,(Value.slice A p.length cap).ownBlock=some k→w.heap.size+1+1+1+1+1+1≤k:=fun k hk=>(hown.lt k hk).1
 have hg6:w.heap.size+1+1+1+1+1+1≤g:=by
  rcases hat with h1 | h1
  ·exact hge g h1
  ·omega
 have e : ∀ k,k<W.heap.size→(Value.slice A p.length cap).ownBlock≠some k→w1.heap[k]? = W.heap[k]? := fun k hk hne=>(hgr.block k (by simp;omega) (fun e=>hne e.symm)).trans (Below.heap_alloc _ _ _ hk)
 have e6 : ∀ k,k<w.heap.size+1+1+1+1+1+1→w1.heap[k]? = W.heap[k]? := fun k hk=>e k (by omega) (fun h1=>by have:=hge k h1;omega)
 have e7 : ∀ k,k≠w.heap.size→(w1.setCell ⟨w.heap.size,0,none⟩ (.slice (some ⟨g,0,none⟩) (p.length+1) cap1)).heap[k]? = w1.heap[k]? := fun k hk=>Below.heap_setCell _ _ _ _ hk
 have e8 : ∀ k,k≠w.heap.size→k<w.heap.size+1+1+1+1+1+1→(w1.setCell ⟨w.heap.size,0,none⟩ (.slice (some ⟨g,0,none⟩) (p.length+1) cap1)).heap[k]? = W.heap[k]? := fun k hk hk6=>(e7 k hk).trans (e6 k hk6)
 have hlen:(p++[t]).length=p.length+1:=by simp
 have hsz1:W.heap.size≤w1.heap.size:=by have:=hgr.size;simp at this;omega
 have hT:Turn F W (w1.setCell ⟨w.heap.size,0,none⟩ (.slice (some ⟨g,0,none⟩) (p.length+1) cap1)):=by
  refine Turn.setCell ?_ (fun _=>(hF _).2 (.inl (by show w.heap.size<_;omega))) _
  exact ((Turn.refl F W).alloc X).grown hgr (fun k _ hk=>(hF k).2 (.inr hk))
 refine ⟨⟨(e8 _ (by omega) (by omega)).trans h.rc,(e8 _ (by omega) (by omega)).trans h.dd,h.sb.keep (e8 _ (by omega) (by omega)),h.ln.keep (e8 _ (by omega) (by omega)),h.wr.keep (e8 _ (by omega) (by omega)),
  ⟨some ⟨g,0,none⟩,cap1,?_,?_,fun k=>Iff.rfl⟩,?_⟩,hT,?_⟩
 ·rw [hlen]
  have h1:=(hb.keep (e6 _ (by omega))).set_ 0 (.slice (some ⟨g,0,none⟩) (p.length+1) cap1)
  simpa [Array.setIfInBounds] using h1
 ·rw [hlen,tlCells_append]
  have h1:tlCells [t]=tlCells1 t:=by simp [tlCells]
  rw [h1]
  exact own_keep hown1 (fun k hk=>e7 k (by have:=(hown1.lt k hk).1;omega))
 ·exact ⟨hT.os.trans h.low.os,hT.tape.trans h.low.tape,hT.output.trans h.low.output,Nat.le_trans h.low.size hT.size,fun k hk=>(e8 k (by omega) (by omega)).trans (h.low.block k hk)⟩
 ·intro k hk hn hf
  rcases hf with h1 | h1
  ·exact hn ((hF k).2 (.inl h1))
  ·have h2:g=k:=by simpa [Value.ownBlock] using h1
   subst h2
   rcases hat with h3 | h3
   ·exact hn ((hF _).2 (.inr h3))
   ·omega
theorem wp_oneM {P:Program} {c:Code} {Q:Exit→Act→World→Prop} {a:Act} {w:World} (A:Act) (X:World) (h:c.wp P (onePost A X) a w) (hq:Q .normal A X):c.wp P Q a w :=
 Code.wp_mono (fun e a' w' hh=>by
  cases e with
  | normal=>obtain ⟨rfl,rfl⟩:=hh;exact hq
  | _=>exact hh.elim) h
theorem lexX_of {w:World} {s:ByteArray} {st st':Obj} {p:List Tl} {F:Nat→Prop} {Wb W':World} {e9:Int} {line:Nat} (h:LexJ w s st p F Wb)
  (hh:W'.os=Wb.os∧W'.tape=Wb.tape∧W'.output=Wb.output∧W'.heap=((Wb.setCell ⟨w.heap.size+1,0,none⟩ (.int .i64 e9)).setCell ⟨w.heap.size+1+1,0,none⟩ (.int .i64 line)).heap) :
  W'.heap[w.heap.size+1+1+1+1+1]? = some st∧LexX w st' line e9 (W'.putObj (w.heap.size+1+1+1+1+1) st'):=by
 obtain ⟨ho,ht,hp,hheap⟩:=hh
 have hsz:=h.size
 have e : ∀ k,k≠w.heap.size+1→k≠w.heap.size+1+1→W'.heap[k]? = Wb.heap[k]? := fun k h1 h2=>by
  rw [hheap]
  exact (Below.heap_setCell _ _ _ _ (by exact h2)).trans (Below.heap_setCell _ _ _ _ (by exact h1))
 have hs':W'.heap.size=Wb.heap.size:=by rw [hheap];simp [World.setCell]
 have hwr:Blk W' (w.heap.size+1) 24 #[.int .i64 e9]:=by
  have h1:=((h.wr.set_ 0 (.int .i64 e9)).far (p:=⟨w.heap.size+1+1,0,none⟩) (by show w.heap.size+1≠w.heap.size+1+1;omega) (.int .i64 line))
  unfold Blk at h1 ⊢
  rw [hheap]
  simpa [Array.setIfInBounds] using h1
 have hln:Blk W' (w.heap.size+1+1) 3 #[.int .i64 line]:=by
  have h1:=((h.ln.far (p:=⟨w.heap.size+1,0,none⟩) (by show w.heap.size+1+1≠w.heap.size+1;omega) (.int .i64 e9)).set_ 0 (.int .i64 line))
  unfold Blk at h1 ⊢
  rw [hheap]
  simpa [Array.setIfInBounds] using h1
 have hrc:W'.heap[w.heap.size+1+1+1+1+1]? = some st:=(e _ (by omega) (by omega)).trans h.rc
 refine ⟨hrc,LexX.turned (st:=st) ⟨hrc,(e _ (by omega) (by omega)).trans h.dd,hln,hwr,?_⟩ st'⟩
 exact ⟨ho.trans h.low.os,ht.trans h.low.tape,hp.trans h.low.output,by rw [hs'];exact h.low.size,fun k hk=>(e k (by omega) (by omega)).trans (h.low.block k hk)⟩
theorem leafLex {n:Nat} {R:Ending→World→Prop} {tmps:Array Value} {W:World} (h:R (.returned (.tuple #[tmps.getD 2 undef,tmps.getD 3 undef,tmps.getD 4 undef])) W):LeavesInM Fence.wide n Tryz.prog Tryz.f14 tmps R [] .returning W :=
 ⟨_,results_tmp3 rfl _ _ _,h⟩
set_option maxRecDepth 100000 in
set_option maxHeartbeats 2000000 in
theorem lex_calls (w:World) (hl:LaidJ w) (s:ByteArray) (hs:s.size≤maxLen) :
  Calls Tryz.prog 14 #[.string s] w (LexOut w s.data.toList):=by
 unfold maxLen at hs
 by_cases hbig:65536<s.size
 ·have HF:=Lib.hid (lex_long (s:=s.data.toList) (by rw [← size_len];exact hbig))
  have hbi:(65536:Int)<(s.size:Int):=by omega
  clear hbig
  refine (callsIn_wide (n:=5)).1 (callsIn_of_wp_marks Tryz.func14 rfl trivial (wpIn_wide.2 ?_) rfl)
  simp only [Tryz.ntmps14,List.size_toArray,List.length_cons,List.length_nil,Nat.reduceAdd,Nat.reduceSub,Array.replicate_succ,Array.replicate_zero,List.push_toArray,List.append_toArray,List.nil_append,List.cons_append]
  go_wp2
  go_step3
  go_wp2
  refine leafLex (n:=5) ?_
  unfold LexOut
  rw [HF.out]
  exact ⟨none,0,rfl,World.ownsRow_nil _ _ 37 5,Below.refl _ _⟩
 ·have hbi:(s.size:Int)≤65536:=by omega
  have hsz:s.size≤65536:=by omega
  have HF:Hid (lexF s.data.toList=match ansL s.data.toList with
   | (l,none)=>(l,0,0)
   | (_,some p)=>([],p.1,p.2)):=Lib.hid (by rw [lexF,if_neg (by rw [← size_len];exact hbig)];rfl)
  have HLJ:=Lib.hid hl
  clear hbig hl
  refine (callsIn_wide (n:=5)).1 (callsIn_of_wp_marks Tryz.func14 rfl trivial (wpIn_wide.2 ?_) rfl)
  simp only [Tryz.ntmps14,List.size_toArray,List.length_cons,List.length_nil,Nat.reduceAdd,Nat.reduceSub,Array.replicate_succ,Array.replicate_zero,List.push_toArray,List.append_toArray,List.nil_append,List.cons_append]
  go_wp2
  go_step3
  go_wp2
  go_step3
  go_wp2_with fail
  refine (tokens_calls _ _).mono ?_
  rintro e w' ⟨rfl,rfl⟩
  go_wp2
  refine wpIn_wide.1 (range_outer (n:=5) rfl (by omega) (gf:=60) (lb:=#[.pointer (some ⟨w.heap.size+1+1+1,0,none⟩)]) rfl trivial (enters_of Tryz.func60 (by kernel_rfl) rfl) ?_)
  intro fn R _ hR
  simp only [World.size_alloc] at hR ⊢
  refine (tokens1_in 4 (w.heap.size+1+1+1+1+1) (w.heap.size+1+1+1) s hsz (fun W' => ∃ (line:Nat) (e0:Int),e0≠0∧(ansL s.data.toList).2=some (line,e0)∧LexX w (R .done (some (.exit 0))) line e0 W') (LexJ w s (R .ready none)) (Lib.hid ?_) _ _ (lexJ_init w s _)).mono ?_
  ·refine ⟨fun h k hk=>h.foot k hk,fun h hT=>h.keep hT,fun h=>⟨HLJ.out.below h.low,h.sb.cell 0⟩,?_,?_⟩
   ·intro m p F W t line nl hj hp
    unfold tkVal
    refine (yield_of hR (fun W' => ∃ F',LexJ w s (R .ready none) (p++[⟨t,line,nl⟩]) F' W'∧KptL F W W' F') (fun _ _=>False) trivial hj.rc rfl ?_).mono ?_
    ·clear hR
     gi_wp2
     obtain ⟨Wb,hWb⟩ : ∃ Wb,(W.alloc (.cells #[.int .i64 t.kind,.string ⟨t.s.toArray⟩,.int .i64 t.n,.int .i64 line,.bool nl] 37)).putObj (w.heap.size+1+1+1+1+1) (R .busy none)=Wb:=⟨_,rfl⟩
     have hsz6:=hj.size
     have hra:(W.alloc (.cells #[.int .i64 t.kind,.string ⟨t.s.toArray⟩,.int .i64 t.n,.int .i64 line,.bool nl] 37)).heap[w.heap.size+1+1+1+1+1]? = some (R .ready none):=(Below.heap_alloc _ _ _ hsz6).trans hj.rc
     have hjb:LexJ w s (R .busy none) p F Wb:=by
      rw [← hWb]
      exact (hj.keep (((Turn.refl (fun _=>False) W).alloc _).mono (fun _ _ e=>e.elim))).turned _
     have hxb:Blk Wb W.heap.size 37 #[.int .i64 t.kind,.string ⟨t.s.toArray⟩,.int .i64 t.n,.int .i64 line,.bool nl]:=by
      rw [← hWb]
      exact (Blk.new W _ _).keep (World.putObj_heap_other (by omega))
     have hTw:Turn (fun x=>x=w.heap.size+1+1+1+1+1) W Wb:=by
      rw [← hWb]
      exact ((Turn.refl _ W).alloc _).trans (turnP _ _ _) (fun _ _ h=>h)
     refine ⟨hra,?_⟩
     rw [hWb]
     have hsW:W.heap.size<Wb.heap.size:=hxb.lt
     have x0:=hxb.cell 0
     have x1:=hxb.cell 1
     have x2:=hxb.cell 2
     have x3:=hxb.cell 3
     have x4:=hxb.cell 4
     obtain ⟨A,cap,hob,hown,hF⟩:=hjb.out
     have c0:=hob.cell 0
     have hne:¬ (p.length:Int)=20000:=by omega
     have hne':((p.length:Int)==20000)=false:=by simp;omega
     have HJB:=Lib.hid hjb
     have HOB:=Lib.hid hob
     have HOWN:=Lib.hid hown
     have HFF:=Lib.hid hF
     have HTW:=Lib.hid hTw
     have hsb:=hjb.size
     obtain ⟨i0,hi,hz0,hz1,hz2⟩:=info_parts info_tok
     have HLI:Hid (p.length≤20000):=Lib.hid (by omega)
     clear hra hj hjb hob hown hF hWb hTw hp
     gi_wp2_with (gi_at_builtin;refine wpListIn_append_lies _ rfl _ _ 23 rfl (w.heap.size+1+1+1+1+1+1) 37 i0 _ 5 48 Tryz.underlying23 hi hz0 hz1 hz2 rfl (by decide) _ _ _ rfl (HOWN.out.alloc _) ⟨Wb.heap.size,0,none⟩ 1 1 [.int .i64 t.kind,.string ⟨t.s.toArray⟩,.int .i64 t.n,.int .i64 line,.bool nl] rfl rfl (World.news_of_block (cs:=#[.int .i64 t.kind,.string ⟨t.s.toArray⟩,.int .i64 t.n,.int .i64 line,.bool nl]) (t:=37) (fr:=(0,0)) (Blk.new Wb _ _)) (by simp [Value.oneCell']) (by decide) ?ml ?byt ?bs (Wb.heap.size+1) (by simp) ?_)
     case ml=>have:=HLI.out;simp only [maxLen];omega
     case byt=>have:=HLI.out;omega
     case bs=>simp;omega
     intro g cap1 w1 hown1 hgrow hat hlt
     have hpu:=lexJ_push (t:=⟨t,line,nl⟩) HJB.out HOB.out HOWN.out HFF.out hown1 hgrow hat
     have hk1:Blk w1 w.heap.size 23 #[.slice A p.length cap]:=HOB.out.keep ((hgrow.block _ (by simp;omega) (fun e=>by have:=(HOWN.out.lt _ e.symm).1;omega)).trans (Below.heap_alloc _ _ _ (by omega)))
     have hc1:=hk1.cell 0
     have hf1:=hk1.frozen 0
     clear hk1
     obtain ⟨W2,hW2⟩ : ∃ W2,w1.setCell ⟨w.heap.size,0,none⟩ (.slice (some ⟨g,0,none⟩) (p.length+1) cap1)=W2:=⟨_,rfl⟩
     rw [hW2] at hpu
     have HPU:=Lib.hid hpu
     clear hpu hown1 hgrow hat hlt hi hz0 hz1 hz2 x0 x1 x2 x3 x4
     gi_wp2
     refine ⟨HPU.out.1.rc,_,HPU.out.1.turned (R .ready none),?_⟩
     have hl5:F (w.heap.size+1+1+1+1+1):=(HFF.out _).2 (.inl (by omega))
     have hT2:Turn F W W2:=(HTW.out.mono (fun k _ e=>by subst e;exact hl5)).trans HPU.out.2.turn (fun _ _ h=>h)
     refine ⟨hT2.trans (turnP W2 _ _) (fun k _ e=>by subst e;exact hl5),fun k hk hn=>HPU.out.2.foot k (Nat.lt_of_lt_of_le hk HTW.out.size) hn⟩
    ·rintro e W' (⟨rfl,h1⟩ | ⟨rfl,_,h1⟩)
     ·exact ⟨rfl,h1⟩
     ·exact h1.elim
   ·intro m p F W t line nl e0 hj hwhy
    unfold tkVal
    obtain ⟨e9,he9,ha9,hor⟩ : ∃ e9:Int,e9≠0∧(ansL s.data.toList).2=some (line,e9)∧((e0≠0∧e9=e0)∨(e0=0∧p.length=20000∧e9=20)):=by
     rcases hwhy with ⟨h1,h2⟩ | ⟨h1,h2,h3⟩
     ·exact ⟨e0,h1,by rw [h2],.inl ⟨h1,rfl⟩⟩
     ·exact ⟨20,by decide,by rw [h3],.inr ⟨h1,h2,rfl⟩⟩
    refine (yield_of hR (fun _=>False) (fun c W'=>c = .exit 0∧LexX w (R .done (some (.exit 0))) line e9 W') trivial hj.rc rfl ?_).mono ?_
    ·clear hwhy ha9
     clear hR
     gi_wp2
     obtain ⟨Wb,hWb⟩ : ∃ Wb,(W.alloc (.cells #[.int .i64 t.kind,.string ⟨t.s.toArray⟩,.int .i64 t.n,.int .i64 line,.bool nl] 37)).putObj (w.heap.size+1+1+1+1+1) (R .busy none)=Wb:=⟨_,rfl⟩
     have hsz6:=hj.size
     have hra:(W.alloc (.cells #[.int .i64 t.kind,.string ⟨t.s.toArray⟩,.int .i64 t.n,.int .i64 line,.bool nl] 37)).heap[w.heap.size+1+1+1+1+1]? = some (R .ready none):=(Below.heap_alloc _ _ _ hsz6).trans hj.rc
     have hjb:LexJ w s (R .busy none) p F Wb:=by
      rw [← hWb]
      exact (hj.keep (((Turn.refl (fun _=>False) W).alloc _).mono (fun _ _ e=>e.elim))).turned _
     have hxb:Blk Wb W.heap.size 37 #[.int .i64 t.kind,.string ⟨t.s.toArray⟩,.int .i64 t.n,.int .i64 line,.bool nl]:=by
      rw [← hWb]
      exact (Blk.new W _ _).keep (World.putObj_heap_other (by omega))
     have hTw:Turn (fun x=>x=w.heap.size+1+1+1+1+1) W Wb:=by
      rw [← hWb]
      exact ((Turn.refl _ W).alloc _).trans (turnP _ _ _) (fun _ _ h=>h)
     refine ⟨hra,?_⟩
     rw [hWb]
     have hsW:W.heap.size<Wb.heap.size:=hxb.lt
     have x0:=hxb.cell 0
     have x1:=hxb.cell 1
     have x2:=hxb.cell 2
     have x3:=hxb.cell 3
     have x4:=hxb.cell 4
     have l0:=hjb.ln.cell 0
     have r0:=hjb.wr.cell 0
     have lf:=hjb.ln.frozen 0
     have rf:=hjb.wr.frozen 0
     have HJB:=Lib.hid hjb
     obtain ⟨A,cap,hob,_,_⟩:=hjb.out
     have c0:=hob.cell 0
     have HX:Hid (∀ W':World,(W'.os=Wb.os∧W'.tape=Wb.tape∧W'.output=Wb.output∧W'.heap=((Wb.setCell ⟨w.heap.size+1,0,none⟩ (.int .i64 e9)).setCell ⟨w.heap.size+1+1,0,none⟩ (.int .i64 line)).heap)→W'.heap[w.heap.size+1+1+1+1+1]? = some (R .busy none)∧LexX w (R .done (some (.exit 0))) line e9 (W'.putObj (w.heap.size+1+1+1+1+1) (R .done (some (.exit 0))))):=Lib.hid (fun W' hh=>lexX_of HJB.out hh)
     clear hra hj hjb hob hWb hTw
     have hmo:Tryz.prog.follows .mixedOrders=true:=by kernel_rfl
     rcases hor with ⟨h1,rfl⟩ | ⟨rfl,h2,rfl⟩
     ·gi_wp2
      apply wpIn_oneM
      case h =>
       gi_region_with_o (fail)
       all_goals exact ⟨rfl,rfl⟩
      clear hmo
      gi_wp2
      have hx:=HX.out ((Wb.setCell ⟨w.heap.size+1,0,none⟩ (.int .i64 e9)).setCell ⟨w.heap.size+1+1,0,none⟩ (.int .i64 line)).drew ⟨rfl,rfl,rfl,rfl⟩
      exact ⟨hx.1,rfl,hx.2⟩
     ·have h2':(p.length:Int)=20000:=by omega
      gi_wp2
      apply wpIn_oneM
      case h =>
       gi_region_with_o (fail)
       all_goals exact ⟨rfl,rfl⟩
      clear hmo
      gi_wp2
      have hx:=HX.out ((Wb.setCell ⟨w.heap.size+1,0,none⟩ (.int .i64 20)).setCell ⟨w.heap.size+1+1,0,none⟩ (.int .i64 line)).drew ⟨rfl,rfl,rfl,rfl⟩
      exact ⟨hx.1,rfl,hx.2⟩
    ·rintro e W' (⟨rfl,h1⟩ | ⟨rfl,_,rfl,h1⟩)
     ·exact h1.elim
     ·exact ⟨rfl,line,e9,he9,ha9,h1⟩
  ·rintro e W ⟨hv,⟨F',hj,hn⟩ | ⟨line,e0,he0,ha,hx⟩⟩
   ·have hlf:lexF s.data.toList=((ansL s.data.toList).1,0,0):=by
     rw [HF.out]
     revert hn
     cases ansL s.data.toList with
     | mk l o =>
      intro hn
      obtain rfl:o=none:=hn
      rfl
    refine ⟨hv,hj.dd,.inl ⟨hj.rc,?_⟩⟩
    clear hR
    have hj1:=hj.turned (R .exhausted none)
    obtain ⟨W1,hW1⟩ : ∃ W1,W.putObj (w.heap.size+1+1+1+1+1) (R .exhausted none)=W1:=⟨_,rfl⟩
    rw [hW1] at hj1 ⊢
    clear hW1 hj hn
    have HLF:=Lib.hid hlf
    have HJ1:=Lib.hid hj1
    obtain ⟨A,cap,hob,hown,_⟩:=hj1.out
    have HOWN:=Lib.hid hown
    have c0:=hob.cell 0
    have r0:=hj1.wr.cell 0
    clear hlf hj1 hob hown
    go_wp2
    refine ⟨by simp,.inl ⟨_,_,rfl,run_takeDeferred HJ1.out.dd,?_⟩⟩
    refine leafLex ?_
    have hT:=turnP W1 (w.heap.size+1+1+1+1) (.deferred none)
    refine ⟨A,cap,by rw [HLF.out];rfl,?_,HJ1.out.low.grown (grownBy_putObj' W1 _ _) HJ1.out.low.size (fun k e=>by injection e with e;omega)⟩
    rw [HLF.out]
    refine own_mono (own_keep HOWN.out (fun k hk=>hT.block k (HOWN.out.lt k hk).2 (fun e=>by have:=(HOWN.out.lt k hk).1;omega))) (fun k hk=>by have:=(HOWN.out.lt k hk).1;omega)
   ·have hlf:lexF s.data.toList=([],line,e0):=by
     rw [HF.out]
     revert ha
     cases ansL s.data.toList with
     | mk l o =>
      intro ha
      obtain rfl:o=some (line,e0):=ha
      rfl
    refine ⟨hv,hx.dd,.inr ⟨.exit 0,hx.rc,?_⟩⟩
    clear hR
    have hx1:=hx.turned (R .exhausted (some (.exit 0)))
    obtain ⟨W1,hW1⟩ : ∃ W1,W.putObj (w.heap.size+1+1+1+1+1) (R .exhausted (some (.exit 0)))=W1:=⟨_,rfl⟩
    rw [hW1] at hx1 ⊢
    clear hW1 hx ha
    have HLF:=Lib.hid hlf
    have HX1:=Lib.hid hx1
    have r0:=hx1.wr.cell 0
    have l0:=hx1.ln.cell 0
    have hne':(e0==0)=false:=by simpa using he0
    clear hlf hx1
    gi_wp2
    go_wp2
    have hmo:Tryz.prog.follows .mixedOrders=true:=by kernel_rfl
    apply wp_oneM
    case h =>
     go_region
     all_goals exact ⟨rfl,rfl⟩
    clear hmo
    go_wp2
    refine ⟨by simp,.inl ⟨_,_,rfl,run_takeDeferred HX1.out.dd,?_⟩⟩
    refine leafLex ?_
    refine ⟨none,0,by rw [HLF.out];rfl,?_,(HX1.out.low.trans (Below.refl _ _).drew).grown (grownBy_putObj' W1.drew _ _) HX1.out.low.size (fun k e=>by injection e with e;omega)⟩
    rw [HLF.out]
    exact World.ownsRow_nil _ _ 37 5
end
end Go.Proofs.YtjjdmiaonkailaaGreatDoor
