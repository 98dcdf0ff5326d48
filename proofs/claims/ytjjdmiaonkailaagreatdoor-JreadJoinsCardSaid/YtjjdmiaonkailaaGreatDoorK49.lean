/- Walks and plain laws, packed: PlJ, Shaped, LawR. -/
import Derived.Test.YtjjdmiaonkailaaGreatDoorK48
import Derived.Test.YtjjdmiaonkailaaGreatDoorK47
import Derived.Test.YtjjdmiaonkailaaGreatDoorK08
import Derived.SizedLaws
import Derived.Handed
import Derived.Shelf.Vars
import Derived.Test.YtjjdmiaonkailaaGreatDoorRows
import Derived.Test.YtjjdmiaonkailaaGreatDoorK44
import Derived.LaidHandle
import Derived.LaidLaws
import Derived.Lay
import Derived.ProofKit
import Derived.OpenShut
import Derived.LaidMore
namespace Go.Proofs.YtjjdmiaonkailaaGreatDoor
section
open Go.RowKit
theorem fx_stmts {last:Nat} {a:List Tree} {l:List Tl}:(fixF last).stmts a l=stmtsS last (fixF last) a l:=(congrArg (fun F:Fns=>F.stmts a l) (fix_eq last)).symm
theorem fx_stmt {last:Nat} {l:List Tl}:(fixF last).stmt l=stmtS last (fixF last) l:=(congrArg (fun F:Fns=>F.stmt l) (fix_eq last)).symm
theorem fx_block {last:Nat} {l:List Tl}:(fixF last).block l=blockS last (fixF last) l:=(congrArg (fun F:Fns=>F.block l) (fix_eq last)).symm
theorem fx_nil {last:Nat} {a:List Tree}:(fixF last).stmts a []=Rd.ok a []:=fx_stmts.trans rfl
theorem ok_inj {α : Type} {a b : α} {r s:List Tl} (h:Rd.ok a r=some (.ok (b,s))):a=b∧r=s:=by
 injection h with h
 injection h with h
 injection h with h1 h2
 exact ⟨h1,h2⟩
theorem bind_okR {α β : Type} {a : α} {r:List Tl} {g : α → List Tl→Rd β}:(Rd.ok a r).bind g=g a r:=rfl
theorem last_app {α : Type} (k:List α) {r:List α} (hn:r≠[]):(k++r).getLast? = r.getLast? := by
 rw [List.getLast?_append]
 cases h:r.getLast? with
 | none=>exact absurd (List.getLast?_eq_none_iff.1 h) hn
 | some x=>rfl
theorem stmts_acc (last:Nat) (a:List Tree) : ∀ (n:Nat) (l:List Tl) (b:List Tree),l.length<n→(fixF last).stmts (a++b) l=((fixF last).stmts b l).bind fun ps r=>Rd.ok (a++ps) r
 | 0,_,_,h=>by omega
 | n+1,l,b,h=>by
  rw [fx_stmts,fx_stmts]
  unfold stmtsS
  by_cases h0:(hereF last l).t.kind=0
  ·rw [if_pos h0,if_pos h0];rfl
  rw [if_neg h0,if_neg h0]
  have hl:=kind_len' h0
  by_cases h1:atF [[125]] l=true
  ·rw [if_pos h1,if_pos h1];rfl
  rw [if_neg h1,if_neg h1]
  by_cases h2:atF [[59]] l=true
  ·rw [if_pos h2,if_pos h2]
   exact stmts_acc last a n _ _ (by omega)
  rw [if_neg h2,if_neg h2]
  have hk:=(okFix last).stmt l
  rcases hs:(fixF last).stmt l with _ | (e | ⟨x,r⟩)
  ·rfl
  ·rfl
  ·have:=(hk.1 x r hs).2
   show (fixF last).stmts (a++b++[x]) r=((fixF last).stmts (b++[x]) r).bind _
   rw [List.append_assoc]
   exact stmts_acc last a n _ _ (by omega)
theorem stmts_stop (last:Nat) : ∀ (n:Nat) (l:List Tl) (b ps:List Tree) (r:List Tl),l.length<n→(fixF last).stmts b l=some (.ok (ps,r))→(hereF last r).t.kind=0∨atF [[125]] r=true
 | 0,_,_,_,_,h,_=>by omega
 | n+1,l,b,ps,r,h,he=>by
  rw [fx_stmts] at he
  unfold stmtsS at he
  by_cases h0:(hereF last l).t.kind=0
  ·rw [if_pos h0] at he
   obtain ⟨_,rfl⟩:=ok_inj he
   exact .inl h0
  rw [if_neg h0] at he
  have hl:=kind_len' h0
  by_cases h1:atF [[125]] l=true
  ·rw [if_pos h1] at he
   obtain ⟨_,rfl⟩:=ok_inj he
   exact .inr h1
  rw [if_neg h1] at he
  by_cases h2:atF [[59]] l=true
  ·rw [if_pos h2] at he
   exact stmts_stop last n _ _ _ _ (by omega) he
  rw [if_neg h2] at he
  obtain ⟨x,q,h3,h4⟩:=bind_ok' he
  have:=(((okFix last).stmt l).1 x q h3).2
  exact stmts_stop last n _ _ _ _ (by omega) h4
def isSemi (t:Tl):Prop:=t.t.kind=5∧t.t.s=[59]
def Semi (l:List Tl):Prop := ∃ t,l.getLast? = some t∧isSemi t
theorem Semi.nil:¬ Semi []:=by
 rintro ⟨t,h,_⟩
 simp at h
theorem Semi.tail {t:Tl} {r:List Tl} (h:Semi (t::r)):Semi r∨r=[]:=by
 cases r with
 | nil=>exact .inr rfl
 | cons u r =>
  obtain ⟨x,h1,h2⟩:=h
  exact .inl ⟨x,by simpa using h1,h2⟩
theorem Semi.suf {l r:List Tl} (h:Semi l) (hr:r <:+ l) (hn:r≠[]):Semi r:=by
 obtain ⟨k,rfl⟩:=hr
 obtain ⟨x,h1,h2⟩:=h
 refine ⟨x,?_,h2⟩
 rw [last_app k hn] at h1
 exact h1
theorem ctx_semi {last':Nat} {m:List Tl} (hm:(hereF 0 m).t.kind=1):Ctx last' m Semi where
 ne:=by
  rintro rfl
  simp [hereF,Tk.zero] at hm
 at_:=by
  intro ss _ _
  cases m with
  | nil=>rfl
  | cons t m =>
   have:t.t.kind=1:=hm
   simp [atF,this]
 lab:=by
  rw [hm]
  rintro ⟨h,_⟩
  omega
 step:=by
  intro t r h ht
  rcases h.tail with h1 | rfl
  ·exact h1
  ·obtain ⟨x,h1,h2⟩:=h
   simp only [List.getLast?_singleton,Option.some.injEq] at h1
   subst h1
   exact absurd h2 ht
 semi:=fun t r h=>h.tail
 suf:=fun l r h h1 h2=>h.suf h1 h2
 end_:=fun h=>absurd h Semi.nil
theorem stmts_joins {last last':Nat} {m:List Tl} (C:Ctx last' m Semi) : ∀ (n:Nat) (l:List Tl) (a ps:List Tree),l.length<n→(Semi l∨l=[])→(fixF last).stmts a l=some (.ok (ps,[]))→(fixF last').stmts a (l++m)=(fixF last').stmts ps m
 | 0,_,_,_,h,_,_=>by omega
 | n+1,[],a,ps,h,hl,he=>by
  rw [fx_nil] at he
  rw [(ok_inj he).1]
  rfl
 | n+1,t::l,a,ps,h,hl,he=>by
  have hS:Semi (t::l):=hl.resolve_right (by simp)
  rw [fx_stmts] at he ⊢
  unfold stmtsS at he ⊢
  have e0:(hereF last' (t::l++m))=t:=rfl
  have e1:(hereF last (t::l))=t:=rfl
  have e2 : ∀ ss,atF ss (t::l++m)=atF ss (t::l):=fun _=>rfl
  rw [e0,e2,e2]
  rw [e1] at he
  by_cases h0:t.t.kind=0
  ·rw [if_pos h0] at he
   have:=(ok_inj he).2
   cases this
  rw [if_neg h0] at he ⊢
  by_cases h1:atF [[125]] (t::l)=true
  ·rw [if_pos h1] at he
   have:=(ok_inj he).2
   cases this
  rw [if_neg h1] at he ⊢
  by_cases h2:atF [[59]] (t::l)=true
  ·rw [if_pos h2] at he ⊢
   exact stmts_joins C n l _ _ (by simp at h;omega) hS.tail he
  rw [if_neg h2] at he ⊢
  obtain ⟨x,q,h3,h4⟩:=bind_ok' he
  have hq:=(((okFix last).stmt (t::l)).1 x q h3).2
  obtain ⟨hp,r',h5,h6⟩:=(ext_fix (last:=last) C).stmt (t::l) hS x q h3
  rw [h5]
  show (fixF last').stmts (a++[x]) r'=_
  rcases h6 with rfl | ⟨_,_,hb,_⟩
  ·exact stmts_joins C n q _ _ (by simp at h hq ⊢;omega) hp h4
  ·exact absurd hb Semi.nil
theorem prog_ok {l:List Tl} (hk : ∀ t ∈ l,1≤t.t.kind) {p:Tree} {r:List Tl} (h:progF (fuelF l) l=some (.ok (p,r))) : ∃ ps,(fixF (lastF l)).stmts [] l=some (.ok (ps,[]))∧r=[]∧p=nd 32 [] ps (hereF (lastF l) l).line:=by
 rw [progF_fix] at h
 obtain ⟨x,q,h1,h2⟩:=bind_ok' h
 obtain ⟨ps,q2,h3,h4⟩:=bind_ok' h1
 obtain ⟨rfl,rfl⟩:=ok_inj h4
 have hsuf:=(((okFix (lastF l)).stmts [] l).1 _ _ h3).1
 split at h2
 ·cases h2
 ·rename_i hz
  obtain ⟨rfl,rfl⟩:=ok_inj h2
  have:q2=[]:=by
   cases q2 with
   | nil=>rfl
   | cons t q =>
    have:=hk t (hsuf.subset (by simp))
    have hz:¬ t.t.kind≠0:=hz
    omega
  subst this
  exact ⟨ps,h3,rfl,rfl⟩
theorem prog_of {l:List Tl} {ps:List Tree} (h:(fixF (lastF l)).stmts [] l=some (.ok (ps,[]))):progF (fuelF l) l=some (.ok (nd 32 [] ps (hereF (lastF l) l).line,[])):=by
 rw [progF_fix,h]
 rfl
theorem lastF_app (l:List Tl) {m:List Tl} (hm:m≠[]):lastF (l++m)=lastF m:=by
 unfold lastF
 rw [last_app l hm]
theorem joins_read {l m:List Tl} (hl : ∀ t ∈ l,1≤t.t.kind) (hm : ∀ t ∈ m,1≤t.t.kind) (hs:Semi l) (hn:(hereF 0 m).t.kind=1) {p q:Tree} {r r2:List Tl} (h1:progF (fuelF l) l=some (.ok (p,r))) (h2:progF (fuelF m) m=some (.ok (q,r2))) :
  ∃ ln:Int,progF (fuelF (l++m)) (l++m)=some (.ok (nd 32 [] (p.l++q.l) ln,[]))∧p=nd 32 [] p.l p.line∧q=nd 32 [] q.l q.line:=by
 obtain ⟨ps,h3,_,rfl⟩:=prog_ok hl h1
 obtain ⟨qs,h4,_,rfl⟩:=prog_ok hm h2
 have C:=ctx_semi (last':=lastF m) hn
 refine ⟨_,prog_of (ps:=ps++qs) ?_,rfl,rfl⟩
 rw [lastF_app l C.ne,stmts_joins C (l.length+1) l [] ps (by omega) (.inl hs) h3]
 have:=stmts_acc (lastF m) ps (m.length+1) m [] (by omega)
 rw [List.append_nil] at this
 rw [this,h4]
 rfl
theorem ctx_end {last':Nat} {s:Tl} (hn:s.nl=true) (hk:s.t.kind=5) (hs:s.t.s=[59]∨s.t.s=[125]):Ctx last' [s] (fun _=>True) where
 ne:=by simp
 at_:=by
  intro ss h1 h2
  simp only [atF,hk]
  rcases hs with hs | hs <;> rw [hs] <;> simpa
 lab:=by
  rintro ⟨_,h⟩
  have h:s.t.s=[58]:=h
  rcases hs with hs | hs <;> rw [hs] at h <;> cases h
 step:=fun _ _ _ _=>trivial
 semi:=fun _ _ _ => .inl trivial
 suf:=fun _ _ _ _ _=>trivial
 end_:=fun _=>⟨s,rfl,hn,hk,hs⟩
theorem semi_read {l:List Tl} (hl : ∀ t ∈ l,1≤t.t.kind) {s:Tl} (hn:s.nl=true) (hk:s.t.kind=5) (hs:s.t.s=[59]) {p:Tree} {r:List Tl} (h:progF (fuelF l) l=some (.ok (p,r))) :
  p=nd 32 [] p.l p.line ∧ ∃ ln:Int,progF (fuelF (l++[s])) (l++[s])=some (.ok (nd 32 [] p.l ln,[])):=by
 obtain ⟨ps,h3,_,rfl⟩:=prog_ok hl h
 obtain ⟨r',h4,h5⟩:=(ext_fix (last:=lastF l) (ctx_end (last':=lastF (l++[s])) hn hk (.inl hs))).stmts [] l trivial ps [] h3 trivial
 have h6:r'=[]:=by
  rcases h5 with rfl | ⟨_,rfl,_⟩
  ·rcases stmts_stop _ _ _ _ _ _ (Nat.lt_succ_self _) h4 with h | h
   ·have h:s.t.kind=0:=h
    omega
   ·simp [atF,hs] at h
  ·rfl
 rw [h6] at h4
 exact ⟨rfl,_,prog_of h4⟩
theorem brace_read {l:List Tl} (hl : ∀ t ∈ l,1≤t.t.kind) {o s:Tl} (hok:o.t.kind=5) (hos:o.t.s=[123]) (hn:s.nl=true) (hk:s.t.kind=5) (hs:s.t.s=[125]) {p:Tree} {r:List Tl} (h:progF (fuelF l) l=some (.ok (p,r))) :
  ∃ ln ln2:Int,progF (fuelF (o::(l++[s]))) (o::(l++[s]))=some (.ok (nd 32 [] [nd 32 [] p.l ln] ln2,[])):=by
 obtain ⟨ps,h3,_,rfl⟩:=prog_ok hl h
 obtain ⟨r',h4,h5⟩:=(ext_fix (last:=lastF l) (ctx_end (last':=lastF (o::(l++[s]))) hn hk (.inr hs))).stmts [] l trivial ps [] h3 trivial
 have h6:r'=[s]:=by
  rcases h5 with rfl | ⟨_,_,_,h⟩
  ·rfl
  ·simp [atF,hs] at h
 rw [h6] at h4
 refine ⟨o.line,_,prog_of ?_⟩
 generalize lastF (o::(l++[s]))=k at h4 ⊢
 have a1 : ∀ x:List UInt8,atF [x] (o::(l++[s]))=decide ([123]=x):=fun x=>by simp [atF,hok,hos]
 have a2:atF [[125]] [s]=true:=by simp [atF,hk,hs]
 rw [fx_stmts]
 unfold stmtsS
 rw [if_neg (show ¬ (hereF k (o::(l++[s]))).t.kind=0 by show ¬ o.t.kind=0;omega),a1,a1,if_neg (by decide),if_neg (by decide),fx_stmt]
 unfold stmtS
 rw [a1,if_pos (by decide),fx_block]
 unfold blockS mustF
 rw [a1,if_pos (by decide),bind_okR]
 show ((((fixF k).stmts [] (l++[s])).bind _).bind _)=_
 rw [h4]
 show ((if atF [[125]] [s]=true then Rd.ok () [s].tail else _:Rd Unit).bind _).bind _=_
 rw [a2,if_pos rfl]
 show (fixF k).stmts ([]++[_]) []=_
 rw [fx_nil]
 rfl
end
section
open Go.RowKit
variable {H:Type} {enc:TypeId × Value→H}
theorem handed_and_shaped {a:Assume} {C:Checked} {os:Os} {f:FuncId} {fn:Func} {s:ChangeSpec} {conds:List PathCond} {apart fresh handsOn again:Bool} {X:World→Array Value→Prop}
  (hX : ∀ (w w':World) (args:Array Value),w.heap=w'.heap→X w args→X w' args)
  (own:ownKnob C.prog.godebug=none) (started:os.Started) (noInit:C.prog.inits.idxOf? f=none) (hfn:C.prog.funcs[f]? = some fn)
  (witness : ∃ (w:World) (tape:Tape) (i:Input),w.os=os∧(w.forCall tape i).Shaped C.prog∧i.vars=[]∧Input.okWide C.prog (w.forCall tape i) .any w.heap.size f i ∧
   ((s.pre enc C.prog fn conds apart (w.forCall tape i).memory i.args∧X (w.forCall tape i).memory i.args)∧sizedMet enc C.prog fn (OpenSpec.ofChange s) apart (w.forCall tape i).memory i.args)∧a.holds C.prog (lone (Frame.enter C.prog f i.args .normal) [] (w.forCall tape i)))
  (contract : ∀ (W:World) (base:Nat) (args:Array Value) (ds gs:List (DataW H)) (before:List MemPlace),
   (∀ (j:Nat) t v,fn.params[j]? = some t→args[j]? = some v→Value.okWide C.prog W .any base t v) →
   DataW.Whole enc C.prog fn.params.toList s.vars apart W args.toList ds gs before →
   X W args→W.ShapedOpen C.prog →
   Calls C.prog f args W fun e W' => ∃ v,e = .returned v∧s.post enc C.prog fn apart fresh handsOn again W args v W') :
  ReturnsInHanded a C os f .any (fun w args=>(s.pre enc C.prog fn conds apart w args∧X w args)∧sizedMet enc C.prog fn (OpenSpec.ofChange s) apart w args) (s.post enc C.prog fn apart fresh handsOn again):=by
 refine returnsInHanded_of_calls own started noInit witness ?_
 intro w tape i _ hsh _ hok hpre _
 obtain ⟨_,_,_,fn',hfn',_,_,_,_,hval⟩:=hok
 have e:fn'=fn:=Option.some.inj (hfn'.symm.trans hfn)
 subst e
 obtain ⟨⟨⟨ds,gs,before,hw,_⟩,hx⟩,_⟩:=hpre
 refine (contract (w.forCall tape i) w.heap.size i.args ds gs before hval (DataW.Whole.of_heap (w':=w.forCall tape i) (by rfl) hw) (hX _ _ _ (by rfl) hx) hsh).mono fun e W' ⟨v,he,hp⟩ => ?_
 subst he
 exact ChangeSpec.post_blind hp
theorem laidJ_of {W:World} (hl:Laid W) (hsh:W.ShapedOpen Tryz.prog):LaidJ W :=
 ⟨hl,cell_of_shapedOpen_int (P:=Tryz.prog) (g:=3) (t:=3) (zero:=#[.int .i64 0]) hsh (of_decide_eq_true (by kernel_rfl)) (by kernel_rfl) rfl (by kernel_rfl) (by kernel_rfl) Tryz.underlying3⟩
end
section
open Go.ChangeShapes Go.WideShapes Go.ChangeAt Go.RowKit
theorem ownR:ownKnob Tryz.prog.godebug=none:=by kernel_rfl
theorem laidOutR:laidOutB Tryz.prog=true:=by kernel_rfl
theorem tail_metR {P:Program} {x:String × DataW Unit} {r:List (String × DataW Unit)} {W:World} (h:laidMet P (x::r) W):laidMet P r W:=by
 obtain ⟨ps,⟨g,t,cs,fuel,p,q,_,_,_,_,hr,rfl⟩,hn,hc⟩:=h
 exact ⟨q,hr,(List.nodup_append.1 hn).2.1,fun b off hm=>hc b off (List.mem_append_right _ hm)⟩
theorem space_met {r:List (String × DataW Unit)} {W:World} (h:laidMet Tryz.prog (("strings.asciiSpace",Rows.laid_strings_asciiSpace)::r) W):Lib.TabIs Tryz.prog W "strings.asciiSpace" .u8 Lib.asciiSpaceTab:=by
 have e:Rows.laid_strings_asciiSpace=(Lib.tabData .u8 Lib.asciiSpaceTab:DataW Unit):=by kernel_rfl
 rw [e] at h
 exact Lib.tabIs_of_head gn_space (by kernel_rfl) Tryz.underlying144 Tryz.underlying5 (by kernel_rfl) (by kernel_rfl) h
theorem pow_met {r:List (String × DataW Unit)} {W:World} (h:laidMet Tryz.prog (("internal/strconv.uint64pow10",Rows.laid_internal_strconv_uint64pow10)::r) W):Lib.TabIs Tryz.prog W "internal/strconv.uint64pow10" .u64 Lib.pow10Tab:=by
 have e:Rows.laid_internal_strconv_uint64pow10=(Lib.tabData .u64 Lib.pow10Tab:DataW Unit):=by kernel_rfl
 rw [e] at h
 exact Lib.tabIs_of_head gn_pow (by kernel_rfl) Tryz.underlying189 Tryz.underlying169 (by kernel_rfl) (by kernel_rfl) h
theorem et_name:Tryz.prog.globalNamed "errors.errorType" = some 0:=by kernel_rfl
theorem rt_type:(Tryz.prog.cutTypes.find? (·.1 == "internal/reflectlite.rtype")).map (·.2)=some 151:=by kernel_rfl
theorem one_error:((List.range Tryz.prog.types.size).filter fun t=>Tryz.prog.rowNamed t [101,114,114,111,114])=[48]:=by kernel_rfl
theorem handle_error:typeHandle Tryz.prog 48 = .pointer (some ⟨12,48,none⟩):=by kernel_rfl
theorem handle_met {W:World} (h:handlesMet Tryz.prog [("errors.errorType",Rows.laid_errors_errorType)] W):W.cell? ⟨0,0,none⟩=some (.iface 151 (.agg #[.pointer (some ⟨12,48,none⟩)])):=by
 obtain ⟨name,u,ty,e1,e2,e3,e4,e5⟩:=h _ (List.mem_singleton.2 rfl)
 have en:name=[101,114,114,111,114]:=(Option.some.inj e1).symm
 subst en
 obtain rfl:=Option.some.inj (rt_type.symm.trans e2)
 have hm:ty ∈ (List.range Tryz.prog.types.size).filter fun t=>Tryz.prog.rowNamed t [101,114,114,111,114]:=List.mem_filter.2 ⟨List.mem_range.2 e3,e4⟩
 rw [one_error] at hm
 obtain rfl:=List.mem_singleton.1 hm
 rw [handle_error] at e5
 simpa using World.var?_cell et_name e5 0
theorem ready_met {W:World} (hl:Laid W) (h:handlesMet Tryz.prog [("errors.errorType",Rows.laid_errors_errorType)] W):Ready W :=
 ⟨fun _ h9=>hl.below h9,handle_met h,World.block_lt_of_cell? W _ (handle_met h)⟩
noncomputable def handled (os:Os):World :=
 let w0:=World.holding Tryz.prog os ⟨#[],#[],[]⟩
 { w0 with heap:=w0.heap.modify 0 fun
   | .cells _ t frozen => .cells #[.iface 151 (.agg #[.pointer (some ⟨12,48,none⟩)])] t frozen
   | o=>o }
theorem laidMet_on {P:Program} {w0:World} {laid:List (String × DataW Unit)} (args:Array Value) (hf:w0.layFits P laid []=true) (hi:w0.layIfaces P laid (w0.layVars P laid)=true) :
  laidMet P laid ((w0.layVars P laid).forCall (fun _ _=>0) ⟨#[],args,[]⟩).memory:=by
 have e1:(laid.filter fun x=>(laid.map (·.1)).contains x.1)=laid:=List.filter_eq_self.2 fun x hx=>List.contains_iff_mem.2 (List.mem_map.2 ⟨x,hx,rfl⟩)
 have e2:(laid.filter fun x => !(laid.map (·.1)).contains x.1)=[]:=List.filter_eq_nil_iff.2 fun x hx=>by rw [List.contains_iff_mem.2 (List.mem_map.2 ⟨x,hx,rfl⟩)];simp
 have h:laidMet P laid (w0.layVars P laid):=laidMet_layVars (w0:=w0) (laid.map (·.1)) [] (by rw [e1]) (by rw [e1];exact hf) (by rw [e1];exact hi) (by rw [e2];exact LaidIn.none)
 exact h.of_heap (by simp [World.memory,World.forCall,Input.heap])
end
end Go.Proofs.YtjjdmiaonkailaaGreatDoor
