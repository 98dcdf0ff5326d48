/- Walks and plain laws, packed: RangeA, RdT, RdWm. -/
import Derived.Test.YtjjdmiaonkailaaGreatDoorK21
import Derived.Test.YtjjdmiaonkailaaGreatDoorK22
import Derived.Test.YtjjdmiaonkailaaGreatDoorK23
import Derived.Test.YtjjdmiaonkailaaGreatDoorK20
namespace Go.Proofs.YtjjdmiaonkailaaGreatDoor
section
open Go.RowKit
def wpAt (f:FuncId) (P:Program) (c:Code) (Q:Exit→Act→World→Prop) (a:Act) (w:World):Prop :=
 ∀ (b:Frame) (k:List Item) (cs:List Frame),b.fn=f→b.roundOf=none →
  ∃ e a' w',Q e a' w'∧ArrivesIn (Machine.fenced P Fence.wide) P (lone (b.atR a (.code c::k)) cs w) b k cs e a' w'
section
variable {f:FuncId} {P:Program} {Q:Exit→Act→World→Prop} {a:Act} {w:World}
theorem wpAt_of_wp {c:Code} (h:c.wp P Q a w):wpAt f P c Q a w:=fun b k cs _ hro=>(wpIn_wide (n:=5)).2 h b k cs hro trivial (room_wide _)
theorem wpAt_mono {c:Code} {Q':Exit→Act→World→Prop} (h:wpAt f P c Q a w) (hq : ∀ e a w,Q e a w→Q' e a w):wpAt f P c Q' a w :=
 fun b k cs hf hro=>let ⟨e,a',w',q,r⟩:=h b k cs hf hro;⟨e,a',w',hq _ _ _ q,r⟩
theorem wpAt_seq {x y:Code} (h:wpAt f P x (Exit.then (wpAt f P y Q) Q) a w):wpAt f P (Code.seq x y) Q a w:=by
 intro b k cs hf hro
 have h0:(lone (b.atR a (.code (.seq x y)::k)) cs w).fenced P Fence.wide:=fenced_wide _ _
 obtain ⟨e,a₁,w₁,hq,harr⟩:=h b (.code y::k) cs hf hro
 cases e with
 | normal =>
  obtain ⟨e₂,a₂,w₂,hq₂,harr₂⟩:=hq b k cs hf hro
  exact ⟨e₂,a₂,w₂,hq₂,.of_steps (.head h0 stepR_seq harr) harr₂⟩
 | exit id=>exact ⟨_,a₁,w₁,hq,.of_steps (.one h0 stepR_seq) (.pass (x := .code y) rfl (fun _ _ => .inl (by simp)) harr)⟩
 | goto l=>exact ⟨_,a₁,w₁,hq,.of_steps (.one h0 stepR_seq) (.pass (x := .code y) rfl (fun _ _ => .inl (by simp)) harr)⟩
 | ret=>exact ⟨_,a₁,w₁,hq,.of_steps (.one h0 stepR_seq) (.pass (x := .code y) rfl (fun _ _ => .inl (by simp)) harr)⟩
 | panic ch=>exact ⟨_,a₁,w₁,hq,.of_steps (.one h0 stepR_seq) (.pass (x := .code y) rfl (fun _ _ => .inl (by simp)) harr)⟩
 | outgrown=>exact ⟨_,a₁,w₁,hq,.of_steps (.one h0 stepR_seq) (.pass (x := .code y) rfl (fun _ _ => .inl (by simp)) harr)⟩
theorem wpAt_block {id:Nat} {c:Code} (h:wpAt f P c (Exit.inBlock id Q) a w):wpAt f P (Code.block id c) Q a w:=by
 intro b k cs hf hro
 have h0:(lone (b.atR a (.code (.block id c)::k)) cs w).fenced P Fence.wide:=fenced_wide _ _
 obtain ⟨e,a₁,w₁,hq,harr⟩:=h b (.inBlock id::k) cs hf hro
 cases e with
 | normal=>exact ⟨.normal,a₁,w₁,hq,.head h0 stepR_block (StepsIn.trans harr (.one (fenced_wide _ _) stepR_inBlock))⟩
 | exit id' =>
  by_cases hid:id'=id
  ·simp only [Exit.inBlock,hid,if_true] at hq
   exact ⟨.normal,a₁,w₁,hq,.head h0 stepR_block (harr.1 k (by simp [exitTo,hid]))⟩
  ·simp only [Exit.inBlock,hid,if_false] at hq
   have this:(id==id')=false:=by simp;exact fun h=>hid h.symm
   have hx:exitTo id' (.inBlock id::k)=exitTo id' k:=by simp [exitTo,this]
   exact ⟨.exit id',a₁,w₁,hq,fun k' hk => .head h0 stepR_block (harr.1 k' (by rw [hx];exact hk)),
    fun hr' hk=>let ⟨k₁,h1,h2⟩:=harr.2 hr' (by rw [hx];exact hk);⟨k₁,h1,.head h0 stepR_block h2⟩⟩
 | goto l =>
  have hx:gotoIn l (.inBlock id::k)=gotoIn l k:=by simp [gotoIn]
  exact ⟨_,a₁,w₁,hq,fun k' hk => .head h0 stepR_block (harr.1 k' (by rw [hx];exact hk)),
   fun hr' hk=>let ⟨k₁,h1,h2⟩:=harr.2 hr' (by rw [hx];exact hk);⟨k₁,h1,.head h0 stepR_block h2⟩⟩
 | ret=>exact ⟨_,a₁,w₁,hq,.of_steps (.one h0 stepR_block) harr⟩
 | panic ch=>exact ⟨_,a₁,w₁,hq,.of_steps (.one h0 stepR_block) harr⟩
 | outgrown=>exact ⟨_,a₁,w₁,hq,.of_steps (.one h0 stepR_block) harr⟩
theorem wpAt_rangeFunc {g:Operand} {ps:Array Tmp} {assign body:Code}
  (h : ∃ (l:Nat) (mark:List Deferred) (w₁ : World) (d:Deferred) (w₁':World) (gf:FuncId) (args:Array Value) (w₂ : World),
   (Instr.enterLoop f a.tmps ps assign body none).run P w = .ok (l,mark) w₁ ∧
   (resolve a.eval (rangeCall g l) 0).run P w₁ = .ok d w₁' ∧
   (invoke d.target d.args).run P w₁' = .ok (.enter gf args) w₂ ∧
   CallsIn Fence.wide 4 P gf args w₂ (rangePost Fence.wide 5 P l Q { a with defers:=mark++a.defers })) :
  wpAt f P (Code.rangeFunc g ps assign body) Q a w:=by
 intro b k cs hbf hro
 subst hbf
 obtain ⟨l,mark,w₁,d,w₁',gf,args,w₂,he,hres,hinv,hcall⟩:=h
 rw [← hro] at he
 have h0:(lone (b.atR a (.code (.rangeFunc g ps assign body)::k)) cs w).fenced P Fence.wide:=fenced_wide _ _
 have henter:=stepR_rangeFunc (P:=P) (b:=b) (a:=a) (k:=k) (cs:=cs) (w:=w) he hres hinv
 obtain ⟨e,w₃,fr,hR,hsteps,hfn,hleave⟩:=hcall.2 (b.atR { a with defers:=mark++a.defers } (.inRangeFunc l::k)::cs) (room_wide _)
 cases e with
 | outgrown =>
  obtain ⟨a₀,w₀,hq⟩:=hR
  exact ⟨.outgrown,a₀,w₀,hq,.inr (Outgrown.of_steps (.one henter) hsteps)⟩
 | returned v =>
  obtain ⟨jump,w₄,hend,hj⟩:=hR
  have sback:StepsIn (Machine.fenced P Fence.wide) P (lone (b.atR a (.code (.rangeFunc g ps assign body)::k)) cs w) (lone (b.atR { a with defers:=mark++a.defers } ((jump.map Item.code).toList++k)) cs w₄):=by
   refine .head h0 henter (StepsIn.trans hsteps (.head (fenced_wide _ _) ?_ (.one (fenced_wide _ _) (stepR_endRangeFunc hend))))
   rw [← finish_atR_inRangeFunc l v];exact step_leave_returned hleave
  cases jump with
  | none=>exact ⟨.normal,_,w₄,hj,sback⟩
  | some c =>
   obtain ⟨e',a'',w₅,hq,harr⟩:=hj b k cs hro trivial (room_wide _)
   exact ⟨e',a'',w₅,hq,.of_steps sback harr⟩
 | panicked chain =>
  refine ⟨.panic chain,_,w₃,hR,.inRangeFunc l::k,.head h0 henter (StepsIn.trans hsteps (.one (fenced_wide _ _) ?_))⟩
  rw [← Frame.raise_atR];exact step_leave_panicked hleave
theorem range_at {g:Operand} {ps:Array Tmp} {assign body:Code} {gf:Nat} {lb:Array Value} (hg:a.eval g = .func (.func gf) #[] lb) (eg : ∀ args w,(callFunc gf args).run P w = .ok (.enter gf args) w)
  (h : ∀ R,recOf f a.tmps ps assign body w.heap.size=R→CallsIn Fence.wide 4 P gf (#[.func (.yield (w.heap.size+1)) #[] #[]]++lb)
   ((w.alloc (.deferred (some []))).alloc (R .ready none))
   (behindP Fence.wide 5 P (w.heap.size+1) w.heap.size R Q { a with defers:={ target := .collected w.heap.size,args:=#[] }::a.defers })) :
  wpAt f P (Code.rangeFunc g ps assign body) Q a w:=by
 refine wpAt_rangeFunc ⟨w.heap.size+1,[{ target := .collected w.heap.size,args:=#[] }],(w.alloc (.deferred (some []))).alloc (recOf f a.tmps ps assign body w.heap.size .ready none),{ target := .fn (.func gf) lb,args:=#[.func (.yield (w.heap.size+1)) #[] #[]] },(w.alloc (.deferred (some []))).alloc (recOf f a.tmps ps assign body w.heap.size .ready none),gf,
  #[.func (.yield (w.heap.size+1)) #[] #[]]++lb,(w.alloc (.deferred (some []))).alloc (recOf f a.tmps ps assign body w.heap.size .ready none),run_enterLoop_outer _ _ _ _ _,?_,?_,?_⟩
 ·simp only [resolve,hg]
  simp [go_sem]
 ·simp [invoke,go_sem,eg]
 ·refine (h _ rfl).mono ?_
  rintro e W (⟨⟨v,rfl⟩,_,(⟨hl,hq⟩ | ⟨c,hl,hq⟩)⟩ | ⟨c,rfl,hq⟩)
  ·exact ⟨none,_,run_endLoop hl (by simp),hq⟩
  ·exact ⟨some c,_,run_endLoop hl (by simp),hq⟩
  ·exact hq
theorem calls_of_at {fn:Func} {c:Code} {args:Array Value} {R:Ending→World→Prop} (hf:P.funcs[f]? = some fn) (hb:fn.body=some c)
  (h:wpAt f P c (bodyPostM Fence.wide 5 P fn R) { tmps:=args++Array.replicate (fn.ntmps-args.size) undef,defers:=[] } w):Calls P f args w R:=by
 refine (callsIn_wide (n:=5)).1 ⟨trivial,fun cs hr => ?_⟩
 let b:Frame:={ (default:Frame) with fn:=f,kind := .normal,roundOf:=none }
 have henter:Frame.enter P f args .normal =
   b.atR { tmps:=args++Array.replicate (fn.ntmps-args.size) undef,defers:=[] } [.code c]:=by
  simp [Frame.enter,Frame.atR,hf,hb,b]
 obtain ⟨e,a',w',hq,harr⟩:=h b [] cs rfl rfl
 rw [← henter] at harr
 cases e with
 | normal =>
  obtain ⟨e',w'',fr',hR,hs,hfn,hl⟩:=leaves_stepsInM a'.defers .returning w' { b.atR a' [] with mode := .returning } cs rfl rfl rfl hf rfl trivial hr hq
  exact ⟨e',w'',fr',hR,ComesIn.of_steps (StepsIn.trans harr (.one (fenced_wide _ _) (stepR_end rfl))) hs,hfn,hl⟩
 | ret =>
  obtain ⟨todo,hs₀⟩:=harr.1 rfl
  obtain ⟨e',w'',fr',hR,hs,hfn,hl⟩:=leaves_stepsInM a'.defers .returning w' { b.atR a' todo with mode := .returning } cs rfl rfl rfl hf rfl trivial hr hq
  exact ⟨e',w'',fr',hR,ComesIn.of_steps hs₀ hs,hfn,hl⟩
 | panic chain =>
  obtain ⟨todo,hs₀⟩:=harr
  obtain ⟨e',w'',fr',hR,hs,hfn,hl⟩:=leaves_stepsInM a'.defers (.panicking chain) w' { b.atR a' todo with mode := .panicking chain } cs rfl rfl rfl hf rfl trivial hr hq
  exact ⟨e',w'',fr',hR,ComesIn.of_steps hs₀ hs,hfn,hl⟩
 | exit id=>exact hq.elim
 | goto l=>exact hq.elim
 | outgrown=>exact ⟨.outgrown,w',b,hq,harr.resolve_left (by simp [b]),rfl,trivial⟩
end
end
section
open Go.RowKit Go.Sort
theorem listed_calls (w:World) (rb:Nat) (tx:ByteArray):Calls Tryz.prog 188 #[rdP rb,.string tx] w fun e w' =>
  e = .returned (.func (.func 202) #[] #[.pointer (some ⟨w.heap.size,0,none⟩),.pointer (some ⟨w.heap.size+1,0,none⟩)])∧(w.alloc (.cells #[rdP rb] 53)).alloc (.cells #[.string tx] 9)=w':=by
 go_enter Tryz.func188,Tryz.ntmps188
 go_wp2
 go_ret
 exact ⟨by simp,rfl⟩
theorem turnPut (W:World) (l:Nat) (o:Obj):Turn (fun k=>k=l) W (W.putObj l o) :=
 ⟨rfl,rfl,rfl,by simp [World.putObj],fun k _ hf=>by simp [World.putObj,Ne.symm hf]⟩
theorem St.low {w w':World} {rb last:Nat} {l:List Tl} (h:St w rb last l) (hb:Below (rb+1) w w'):St w' rb last l:=by
 obtain ⟨A,c,h⟩:=h
 exact ⟨A,c,h.blk.keep (hb.block _ (Nat.lt_succ_self _)),h.toks.keep fun k hk=>hb.block k (by omega),fun w2 h2=>h.laid w2 ((hb.mono (Nat.le_succ _)).trans h2)⟩
theorem St.putO {w:World} {rb last:Nat} {l:List Tl} (h:St w rb last l) {b:Nat} (hb:rb<b) (o:Obj):St (w.putObj b o) rb last l :=
 h.low ((turnPut w b o).below (by have:=h.lt;omega) (fun k e=>by omega))
theorem alloc6R (w:World) (a b c d e f:Obj) (k:Nat):((((((w.alloc a).alloc b).alloc c).alloc d).alloc e).alloc f).heap[k]? =
  if k=w.heap.size then some a else if k=w.heap.size+1 then some b else if k=w.heap.size+1+1 then some c else if k=w.heap.size+1+1+1 then some d else if k=w.heap.size+1+1+1+1 then some e else if k=w.heap.size+1+1+1+1+1 then some f else w.heap[k]? := by
 show ((((((w.heap.push a).push b).push c).push d).push e).push f)[k]? = _
 simp only [Array.getElem?_push,Array.size_push]
 split <;> rename_i h6
 ·subst h6
  rw [if_neg (by omega),if_neg (by omega),if_neg (by omega),if_neg (by omega),if_neg (by omega)]
 ·split <;> rename_i h5
  ·subst h5
   rw [if_neg (by omega),if_neg (by omega),if_neg (by omega),if_neg (by omega)]
  ·split <;> rename_i h4
   ·subst h4
    rw [if_neg (by omega),if_neg (by omega),if_neg (by omega)]
   ·split <;> rename_i h3
    ·subst h3
     rw [if_neg (by omega),if_neg (by omega)]
    ·split <;> rename_i h2
     ·subst h2
      rw [if_neg (by omega)]
     ·split <;> rename_i h1
      ·rfl
      ·rfl
structure ArgJ (w:World) (rb:Nat) (tx:ByteArray) (st:Obj) (acc:List Tree) (W:World):Prop where
 rc:W.heap[w.heap.size+1+1+1+1+1]? = some st
 dd:W.heap[w.heap.size+1+1+1+1]? = some (.deferred (some []))
 bx0:Blk W w.heap.size 53 #[rdP rb]
 out : ∃ A c,Blk W (w.heap.size+1) 27 #[.slice A acc.length c]∧RowT (w.heap.size+1+1+1+1+1+1) W acc (.slice A acc.length c)∧(acc=[]→A=none∧c=0)
 bx1:Blk W (w.heap.size+1+1) 53 #[rdP rb]
 bx2:Blk W (w.heap.size+1+1+1) 9 #[.string tx]
 tn:TurnR rb w W
section
variable {w W W':World} {rb:Nat} {tx:ByteArray} {st:Obj} {acc:List Tree}
theorem ArgJ.size (h:ArgJ w rb tx st acc W):w.heap.size+1+1+1+1+1<W.heap.size:=(Array.getElem?_eq_some_iff.1 h.rc).1
theorem ArgJ.tr (h:ArgJ w rb tx st acc W) (hrb:rb<w.heap.size) (t:TurnR rb W W'):ArgJ w rb tx st acc W':=by
 have hsz:=h.size
 obtain ⟨A,c,h1,h2,h3⟩:=h.out
 exact ⟨(t.block _ (by omega) (by omega)).trans h.rc,(t.block _ (by omega) (by omega)).trans h.dd,h.bx0.tr t (by omega),⟨A,c,h1.tr t (by omega),h2.tr t (by omega),h3⟩,h.bx1.tr t (by omega),h.bx2.tr t (by omega),TurnR.trans h.tn t⟩
theorem ArgJ.turned (h:ArgJ w rb tx st acc W) (st':Obj):ArgJ w rb tx st' acc (W.putObj (w.heap.size+1+1+1+1+1) st'):=by
 have hsz:=h.size
 have t:=turnPut W (w.heap.size+1+1+1+1+1) st'
 have hk : ∀ k,k≠w.heap.size+1+1+1+1+1→k<W.heap.size→(W.putObj (w.heap.size+1+1+1+1+1) st').heap[k]? = W.heap[k]? := fun k hk hs=>t.block k hs hk
 obtain ⟨A,c,h1,h2,h3⟩:=h.out
 refine ⟨by simp [World.putObj,hsz],(hk _ (by omega) (by omega)).trans h.dd,h.bx0.keep (hk _ (by omega) (by omega)),⟨A,c,h1.keep (hk _ (by omega) (by omega)),h2.turn (fun k hk' hs=>hk k (by omega) hs) t.size,h3⟩,h.bx1.keep (hk _ (by omega) (by omega)),h.bx2.keep (hk _ (by omega) (by omega)),?_⟩
 exact Turn.trans h.tn t (fun k hk e=>absurd e (by omega))
theorem ArgJ.cells (h:ArgJ w rb tx st acc W) (hrb:rb<w.heap.size):rb<W.heap.size∧(w.heap.size+1+1<W.heap.size∧W.cell? ⟨w.heap.size+1+1,0,none⟩=some (rdP rb))∧(w.heap.size+1+1+1<W.heap.size∧W.cell? ⟨w.heap.size+1+1+1,0,none⟩=some (.string tx)):=by
 have hsz:=h.size
 exact ⟨by omega,⟨by omega,h.bx1.cell 0⟩,by omega,h.bx2.cell 0⟩
end
section
variable {w Wa w8:World} {rb last d g n cap o o1 o2 o3 o4 m c:Nat} {tx:ByteArray} {st:Obj} {r:List Tl} {acc:List Tree} {z:Tree} {A:Option Addr} {own:Option Nat}
theorem ArgJ.pushed {W':World} (hj:ArgJ w rb tx st acc Wa) (hgr:Wa.grownBy w8 own) (hown : ∀ k,own=some k→w.heap.size+1+1+1+1+1+1≤k) (hn:n=acc.length+1)
  (hk : ∀ k,k<w.heap.size+1+1+1+1+1+1→k≠w.heap.size+1→W'.heap[k]? = w8.heap[k]?) (hb:Blk W' (w.heap.size+1) 27 #[.slice (some ⟨g,0,none⟩) n cap]) (hrow:RowT (w.heap.size+1+1+1+1+1+1) W' (acc++[z]) (.slice (some ⟨g,0,none⟩) n cap)) (htn:TurnR rb w W'):ArgJ w rb tx st (acc++[z]) W':=by
 subst hn
 have hsz:=hj.size
 have hb8 : ∀ k,k<w.heap.size+1+1+1+1+1+1→k≠w.heap.size+1→W'.heap[k]? = Wa.heap[k]? := fun k h1 h2=>(hk k h1 h2).trans (hgr.block k (by omega) (fun e=>by have:=hown k e.symm;omega))
 refine ⟨(hb8 _ (by omega) (by omega)).trans hj.rc,(hb8 _ (by omega) (by omega)).trans hj.dd,hj.bx0.keep (hb8 _ (by omega) (by omega)),⟨some ⟨g,0,none⟩,cap,?_,?_,?_⟩,hj.bx1.keep (hb8 _ (by omega) (by omega)),hj.bx2.keep (hb8 _ (by omega) (by omega)),htn⟩
 ·rw [List.length_append,List.length_singleton];exact hb
 ·rw [List.length_append,List.length_singleton];exact hrow
 ·intro e;simp at e
theorem ArgJ.app_a (hrb:rb<w.heap.size) (hj:ArgJ w rb tx st acc Wa) (hgr:Wa.grownBy w8 own) (hown : ∀ k,own=some k→w.heap.size+1+1+1+1+1+1≤k) (hg:w.heap.size+1+1+1+1+1+1≤g) (hs8:St w8 rb last r) (hrow:RowT (w.heap.size+1+1+1+1+1+1) w8 (acc++[zeroT]) (.slice (some ⟨g,0,none⟩) n cap)) (hn:n=acc.length+1) (ho:o=acc.length*5) (hm:m=z.l.length) (hok:z.ok)
  (htz:TrP (fun k=>w.heap.size+1+1+1+1+1+1≤k∧g≠k) w8 d z.l (.slice A z.l.length c)) (e1:o1=o+1) (e2:o2=o+2) (e3:o3=o+3) (e4:o4=o+4) :
  ArgJ w rb tx st (acc++[z]) ((((((w8.setCell ⟨g,o,none⟩ (.int .i64 z.op)).setCell ⟨g,o1,none⟩ (.string z.s)).setCell ⟨g,o2,none⟩ (.int .i64 z.n)).setCell ⟨g,o3,none⟩ (.slice A m c)).setCell ⟨g,o4,none⟩ (.int .i64 z.line)).setCell ⟨w.heap.size+1,0,none⟩ (.slice (some ⟨g,0,none⟩) n cap)) ∧
  St ((((((w8.setCell ⟨g,o,none⟩ (.int .i64 z.op)).setCell ⟨g,o1,none⟩ (.string z.s)).setCell ⟨g,o2,none⟩ (.int .i64 z.n)).setCell ⟨g,o3,none⟩ (.slice A m c)).setCell ⟨g,o4,none⟩ (.int .i64 z.line)).setCell ⟨w.heap.size+1,0,none⟩ (.slice (some ⟨g,0,none⟩) n cap)) rb last r:=by
 subst hm e1 e2 e3 e4
 obtain ⟨A0,c0,hb0,_,_⟩:=hj.out
 have hb8:=hb0.grown hgr (fun e=>by have:=hown _ e.symm;omega)
 have hq:=(hb8.set5at (g:=g) (by omega) o (.int .i64 z.op) (.string z.s) (.int .i64 z.n) (.slice A z.l.length c) (.int .i64 z.line)).set_ 0 (.slice (some ⟨g,0,none⟩) n cap)
 have hput:=(RowT.put hrow ho rfl hok htz).far (p:=⟨w.heap.size+1,0,none⟩) (by show w.heap.size+1<_;omega) (.slice (some ⟨g,0,none⟩) n cap)
 have ht8:TurnR rb w w8:=TurnR.grown hj.tn hgr (fun k e=>by have:=hown k e;omega)
 refine ⟨ArgJ.pushed hj hgr hown hn (fun k h1 h2 => ?_) (by simpa [sets5at] using hq) hput ?_,(hs8.set5at (by omega) o (.int .i64 z.op) (.string z.s) (.int .i64 z.n) (.slice A z.l.length c) (.int .i64 z.line)).set' (g:=w.heap.size+1) (j:=0) (by omega) _⟩
 ·rw [Below.heap_setCell _ _ _ _ h2,Below.heap_setCell _ _ _ _ (by show k≠g;omega),Below.heap_setCell _ _ _ _ (by show k≠g;omega),Below.heap_setCell _ _ _ _ (by show k≠g;omega),Below.heap_setCell _ _ _ _ (by show k≠g;omega),Below.heap_setCell _ _ _ _ (by show k≠g;omega)]
 ·exact ((((((ht8.set (p:=⟨g,o,none⟩) (by show w.heap.size≤g;omega) _).set (p:=⟨g,o+1,none⟩) (by show w.heap.size≤g;omega) _).set (p:=⟨g,o+2,none⟩) (by show w.heap.size≤g;omega) _).set (p:=⟨g,o+3,none⟩) (by show w.heap.size≤g;omega) _).set (p:=⟨g,o+4,none⟩) (by show w.heap.size≤g;omega) _).set (p:=⟨w.heap.size+1,0,none⟩) (by show w.heap.size≤w.heap.size+1;omega) _)
theorem ArgJ.app_b (hrb:rb<w.heap.size) (hj:ArgJ w rb tx st acc Wa) (hgr:Wa.grownBy w8 own) (hown : ∀ k,own=some k→w.heap.size+1+1+1+1+1+1≤k) (hg:w.heap.size+1+1+1+1+1+1≤g) (hs8:St w8 rb last r) (hrow:RowT (w.heap.size+1+1+1+1+1+1) w8 (acc++[zeroT]) (.slice (some ⟨g,0,none⟩) n cap)) (hn:n=acc.length+1) (ho:o=acc.length*5) (hm:m=z.l.length) (hok:z.ok)
  (htz:TrP (fun k=>w.heap.size+1+1+1+1+1+1≤k∧g≠k) w8 d z.l (.slice A z.l.length c)) (e1:o1=o+1) (e2:o2=o+2) (e3:o3=o+3) (e4:o4=o+4) :
  ArgJ w rb tx st (acc++[z]) ((((((w8.setCell ⟨w.heap.size+1,0,none⟩ (.slice (some ⟨g,0,none⟩) n cap)).setCell ⟨g,o,none⟩ (.int .i64 z.op)).setCell ⟨g,o1,none⟩ (.string z.s)).setCell ⟨g,o2,none⟩ (.int .i64 z.n)).setCell ⟨g,o3,none⟩ (.slice A m c)).setCell ⟨g,o4,none⟩ (.int .i64 z.line)) ∧
  St ((((((w8.setCell ⟨w.heap.size+1,0,none⟩ (.slice (some ⟨g,0,none⟩) n cap)).setCell ⟨g,o,none⟩ (.int .i64 z.op)).setCell ⟨g,o1,none⟩ (.string z.s)).setCell ⟨g,o2,none⟩ (.int .i64 z.n)).setCell ⟨g,o3,none⟩ (.slice A m c)).setCell ⟨g,o4,none⟩ (.int .i64 z.line)) rb last r:=by
 subst hm e1 e2 e3 e4
 obtain ⟨A0,c0,hb0,_,_⟩:=hj.out
 have hb8:=hb0.grown hgr (fun e=>by have:=hown _ e.symm;omega)
 have hq:Blk (w8.setCell ⟨w.heap.size+1,0,none⟩ (.slice (some ⟨g,0,none⟩) n cap)) (w.heap.size+1) 27 #[.slice (some ⟨g,0,none⟩) n cap]:=by
  have hq:=hb8.set_ 0 (.slice (some ⟨g,0,none⟩) n cap)
  simpa using hq
 have ht8:TurnR rb w w8:=TurnR.grown hj.tn hgr (fun k e=>by have:=hown k e;omega)
 have hp:(⟨w.heap.size+1,0,none⟩:Addr).block<w.heap.size+1+1+1+1+1+1:=by show w.heap.size+1<_;omega
 refine ⟨ArgJ.pushed hj hgr hown hn (fun k h1 h2 => ?_) (hq.set5at (g:=g) (by omega) o _ _ _ _ _) (RowT.put (hrow.far hp _) ho rfl hok (htz.far (p:=⟨w.heap.size+1,0,none⟩) (fun h=>absurd h.1 (by show ¬ (_≤w.heap.size+1);omega)) _)) ?_,(hs8.set' (g:=w.heap.size+1) (j:=0) (by omega) _).set5at (by omega) o _ _ _ _ _⟩
 ·rw [Below.heap_setCell _ _ _ _ (by show k≠g;omega),Below.heap_setCell _ _ _ _ (by show k≠g;omega),Below.heap_setCell _ _ _ _ (by show k≠g;omega),Below.heap_setCell _ _ _ _ (by show k≠g;omega),Below.heap_setCell _ _ _ _ (by show k≠g;omega),Below.heap_setCell _ _ _ _ h2]
 ·exact ((((((ht8.set (p:=⟨w.heap.size+1,0,none⟩) (by show w.heap.size≤w.heap.size+1;omega) _).set (p:=⟨g,o,none⟩) (by show w.heap.size≤g;omega) _).set (p:=⟨g,o+1,none⟩) (by show w.heap.size≤g;omega) _).set (p:=⟨g,o+2,none⟩) (by show w.heap.size≤g;omega) _).set (p:=⟨g,o+3,none⟩) (by show w.heap.size≤g;omega) _).set (p:=⟨g,o+4,none⟩) (by show w.heap.size≤g;omega) _)
end
def argRec (last:Nat) (g:Nat) (acc:List Tree) (l:List Tl):Rd (List Tree):=(fns last g).args acc l
def argOne (last:Nat) (g:Nat) (acc:List Tree) (l:List Tl):Rd (List Tree):=((fns last g).expr l).bind fun x r => .ok (acc++[x]) r
theorem arg_rec (last g:Nat) (acc:List Tree) (l:List Tl):argRec last (g+1) acc l=(argOne last g acc l).bind (contF last [41] (argRec last g)):=by
 show argsS last (fns last g) acc l=_
 unfold argsS argOne
 match (fns last g).expr l with
 | none=>rfl
 | some (.error e)=>rfl
 | some (.ok (x,r))=>rfl
theorem arg_len (last g:Nat) (acc:List Tree) (l:List Tl) (a:List Tree) (r:List Tl) (h:argOne last g acc l=some (.ok (a,r))):r.length≤l.length∧a.length=acc.length+1:=by
 unfold argOne at h
 obtain ⟨x,r1,h1,h2⟩:=bind_some h |>.resolve_left (by rintro ⟨e,_,h⟩;cases h)
 have:=some_ok h2
 injection this with this
 injection this with h3 h4
 subst h3 h4
 have:=((okFns last g).expr l).1 _ _ h1
 exact ⟨by omega,by simp⟩
end
section
open Go.RowKit Go.Sort
def midF (Q:Exit→Act→World→Prop) (A:(Nat→Value)→Act) (R:World→Prop):Exit→Act→World→Prop
 | .normal,a,w=>a=A (fun i=>a.tmps.getD i undef)∧R w
 | .exit i,a,w=>Q (.exit i) a w
 | .goto l,a,w=>Q (.goto l) a w
 | .ret,a,w=>Q .ret a w
 | .panic c,a,w=>Q (.panic c) a w
 | .outgrown,a,w=>Q .outgrown a w
theorem wp_midF {P:Program} {c:Code} {Q:Exit→Act→World→Prop} {a:Act} {w:World} (A:(Nat→Value)→Act) (R:World→Prop)
  (h:c.wp P (midF Q A R) a w) (hq : ∀ f w',R w'→Q .normal (A f) w'):c.wp P Q a w :=
 wp_mono h (fun e a' w' hh=>by
  cases e with
  | normal =>
   obtain ⟨he,hr⟩:=hh
   rw [he]
   exact hq _ w' hr
  | _=>exact hh)
def midG (Q:Exit→Act→World→Prop) (A:(Nat→Value)→Act) (R:(Nat→Value)→World→Prop):Exit→Act→World→Prop
 | .normal,a,w=>a=A (fun i=>a.tmps.getD i undef)∧R (fun i=>a.tmps.getD i undef) w
 | .exit i,a,w=>Q (.exit i) a w
 | .goto l,a,w=>Q (.goto l) a w
 | .ret,a,w=>Q .ret a w
 | .panic c,a,w=>Q (.panic c) a w
 | .outgrown,a,w=>Q .outgrown a w
theorem wp_midG {P:Program} {c:Code} {Q:Exit→Act→World→Prop} {a:Act} {w:World} (A:(Nat→Value)→Act) (R:(Nat→Value)→World→Prop)
  (h:c.wp P (midG Q A R) a w) (hq : ∀ f w',R f w'→Q .normal (A f) w'):c.wp P Q a w :=
 wp_mono h (fun e a' w' hh=>by
  cases e with
  | normal =>
   obtain ⟨he,hr⟩:=hh
   rw [he]
   exact hq _ w' hr
  | _=>exact hh)
theorem midF_normal {Q:Exit→Act→World→Prop} {A:(Nat→Value)→Act} {R:World→Prop} {a:Act} {w:World} (h1:a=A (fun i=>a.tmps.getD i undef)) (h2:R w):midF Q A R .normal a w:=⟨h1,h2⟩
theorem midG_normal {Q:Exit→Act→World→Prop} {A:(Nat→Value)→Act} {R:(Nat→Value)→World→Prop} {a:Act} {w:World} (h1:a=A (fun i=>a.tmps.getD i undef)) (h2:R (fun i=>a.tmps.getD i undef) w):midG Q A R .normal a w:=⟨h1,h2⟩
end
end Go.Proofs.YtjjdmiaonkailaaGreatDoor
