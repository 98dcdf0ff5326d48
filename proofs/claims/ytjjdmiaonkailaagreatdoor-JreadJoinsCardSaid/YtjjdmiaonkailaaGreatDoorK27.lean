/- Walks and plain laws, packed: As1, As2. -/
import Derived.Test.YtjjdmiaonkailaaGreatDoorK18
import Derived.WalkKit
import Derived.LaidEql
import Derived.Stop.Asserts
import Derived.RowKitTokens
import Derived.Deep.MidRow
import Derived.WalkMore
namespace Go.Proofs.YtjjdmiaonkailaaGreatDoor
section
open Go.RowKit Go.Extern.Stop Go.Stop Go.Extern
theorem as_nil (t:Value) (w:World):Calls Tryz.prog 52 #[.nilIface,t] w fun e w'=>e = .returned (.bool false)∧w'=w:=by
 go_enter Tryz.func52,Tryz.ntmps52
 go_wp2
 go_ret
 exact ⟨rfl,rfl⟩
theorem rf_valueOf (t:Addr) (w:World):(ReflectliteValue.unpack (.iface 88 (.pointer (some t)))).run Tryz.prog w = .ok (.agg #[.pointer (some ⟨12,88,none⟩),.pointer (some ⟨w.heap.size,0,none⟩),.int .u64 150]) (w.alloc (.cells #[.pointer (some t)] 88)):=by kernel_rfl
theorem rf_type (a:Addr) (w:World):(ReflectliteValue.methodAny (ReflectliteValue.valueError "reflectlite.Value.Type" 0) (fun t _ _ _=>ReflectliteType.toType t) #[.agg #[.pointer (some ⟨12,88,none⟩),.pointer (some a),.int .u64 150]]).run Tryz.prog w = .ok (.iface 151 (.agg #[.pointer (some ⟨12,88,none⟩)])) w:=by kernel_rfl
theorem rf_methodKind (h:Value) (w:World):(Go.method 367 151 (.agg #[h]) "Kind").run Tryz.prog w = .ok (222,h) w:=by kernel_rfl
theorem rf_methodElem (h:Value) (w:World):(Go.method 367 151 (.agg #[h]) "Elem").run Tryz.prog w = .ok (235,.agg #[h]) w:=by kernel_rfl
theorem rf_methodImpl (h:Value) (w:World):(Go.method 367 151 (.agg #[h]) "Implements").run Tryz.prog w = .ok (236,.agg #[h]) w:=by kernel_rfl
theorem rf_methodAssign (h:Value) (w:World):(Go.method 367 151 (.agg #[h]) "AssignableTo").run Tryz.prog w = .ok (233,.agg #[h]) w:=by kernel_rfl
theorem rf_kindP (w:World):((ReflectliteType.abiMethod fun t=>(fun a:Nat=>Value.int IntKind.u8 (a:Int)) <$> Rtype.kind t) #[.pointer (some ⟨12,88,none⟩)]).run Tryz.prog w = .ok (.int .u8 22) w:=by kernel_rfl
theorem rf_kindF (w:World):((ReflectliteType.abiMethod fun t=>(fun a:Nat=>Value.int IntKind.u8 (a:Int)) <$> Rtype.kind t) #[.pointer (some ⟨12,80,none⟩)]).run Tryz.prog w = .ok (.int .u8 25) w:=by kernel_rfl
theorem rf_rlm (z:Sem Value) (f:TypeId→Addr→Nat→Nat→Sem Value) (v:Value) :
  ReflectliteValue.method z f #[v]=(do match ← ReflectliteValue.parts v with | none=>z | some (t,a,fl)=>f t a fl (fl % 32)):=rfl
theorem rf_parts (a:Addr) (w:World):(ReflectliteValue.parts (.agg #[.pointer (some ⟨12,88,none⟩),.pointer (some a),.int .u64 150])).run Tryz.prog w = .ok (some (88,a,150)) w:=by kernel_rfl
theorem rf_isNil (a p:Addr) (W:World) (ha:W.cell? a=some (.pointer (some p))) :
  (ReflectliteValue.method (ReflectliteValue.valueError "reflectlite.Value.IsNil" 0) ReflectliteValue.isNil #[.agg #[.pointer (some ⟨12,88,none⟩),.pointer (some a),.int .u64 150]]).run Tryz.prog W = .ok (.bool false) W:=by
 rw [rf_rlm]
 simp only [Sem.run_bind,rf_parts,Result.andThen]
 simp [ReflectliteValue.isNil,loadVar,isAgg,underlying,Tryz.underlying88,ha,Result.andThen]
theorem rf_elem (w:World):(ReflectliteType.method ReflectliteType.elem #[.agg #[.pointer (some ⟨12,88,none⟩)]]).run Tryz.prog w = .ok (.iface 151 (.agg #[.pointer (some ⟨12,80,none⟩)])) w:=by kernel_rfl
theorem rf_impl (w:World):(ReflectliteType.relation "Implements" ReflectliteType.implements_ #[.agg #[.pointer (some ⟨12,80,none⟩)],.iface 151 (.agg #[.pointer (some ⟨12,48,none⟩)])]).run Tryz.prog w = .ok (.bool true) w:=by kernel_rfl
theorem rf_typeOfJ (v:Value) (w:World):(ReflectliteType.typeOf #[.iface 115 v]).run Tryz.prog w = .ok (.iface 151 (.agg #[.pointer (some ⟨12,115,none⟩)])) w:=by kernel_rfl
theorem rf_typeOfF (v:Value) (w:World):(ReflectliteType.typeOf #[.iface 80 v]).run Tryz.prog w = .ok (.iface 151 (.agg #[.pointer (some ⟨12,80,none⟩)])) w:=by kernel_rfl
theorem rf_assignJ (w:World):(ReflectliteType.relation "AssignableTo" ReflectliteType.assignableTo #[.agg #[.pointer (some ⟨12,115,none⟩)],.iface 151 (.agg #[.pointer (some ⟨12,80,none⟩)])]).run Tryz.prog w = .ok (.bool false) w:=by kernel_rfl
theorem rf_assignF (w:World):(ReflectliteType.relation "AssignableTo" ReflectliteType.assignableTo #[.agg #[.pointer (some ⟨12,80,none⟩)],.iface 151 (.agg #[.pointer (some ⟨12,80,none⟩)])]).run Tryz.prog w = .ok (.bool true) w:=by kernel_rfl
theorem rf_valueOfF (c ln:Int) (w:World):(ReflectliteValue.unpack (.iface 80 (.agg #[.int .i64 c,.int .i64 ln]))).run Tryz.prog w = .ok (.agg #[.pointer (some ⟨12,80,none⟩),.pointer (some ⟨w.heap.size,0,none⟩),.int .u64 153]) (w.alloc (.cells #[.int .i64 c,.int .i64 ln] 80)):=by kernel_rfl
theorem rf_elemOf (w:World):(Rtype.elem? 88).run Tryz.prog w = .ok (some 80) w:=by kernel_rfl
theorem rf_mk (p:Addr) (w:World):(ReflectliteValue.mk 80 p ReflectliteValue.flagAddr).run Tryz.prog w = .ok (.agg #[.pointer (some ⟨12,80,none⟩),.pointer (some p),.int .u64 409]) w:=by kernel_rfl
theorem rf_elemV (a p:Addr) (W:World) (ha:W.cell? a=some (.pointer (some p))) :
  (ReflectliteValue.method (ReflectliteValue.valueError "reflectlite.Value.Elem" 0) ReflectliteValue.elem #[.agg #[.pointer (some ⟨12,88,none⟩),.pointer (some a),.int .u64 150]]).run Tryz.prog W = .ok (.agg #[.pointer (some ⟨12,80,none⟩),.pointer (some p),.int .u64 409]) W:=by
 rw [rf_rlm]
 simp only [Sem.run_bind,rf_parts,Result.andThen]
 simp [ReflectliteValue.elem,loadVar,isAgg,underlying,Tryz.underlying88,ha,Result.andThen,rf_elemOf,rf_mk]
theorem rf_noAs (v:Value) (w:World):(Instr.typeAssert (.iface 115 v) 48 156 true).run Tryz.prog w = .ok (.tuple #[.nilIface,.bool false]) w:=run_typeAssert_lacksB Tryz.underlying156 (by kernel_rfl) (by kernel_rfl) _ _ _
theorem rf_noUnwrap (v:Value) (w:World):(Instr.typeAssert (.iface 115 v) 48 159 true).run Tryz.prog w = .ok (.tuple #[.nilIface,.bool false]) w:=run_typeAssert_lacksB Tryz.underlying159 (by kernel_rfl) (by kernel_rfl) _ _ _
theorem rf_unwrap (v:Value) (w:World):(Instr.typeAssert (.iface 115 v) 48 161 true).run Tryz.prog w = .ok (.tuple #[.iface 115 v,.bool true]) w:=by kernel_rfl
theorem rf_methodUnwrap (v:Value) (w:World):(Go.method 367 115 v "Unwrap").run Tryz.prog w = .ok (228,v) w:=by kernel_rfl
theorem eql_fault (c ln:Int) (w:World):Sem.run Tryz.prog (binOp .eql 48 (.iface 80 (.agg #[.int .i64 c,.int .i64 ln])) .nilIface) w = .ok (.bool false) w:=by kernel_rfl
end
section
open Go.RowKit Go.Extern.Stop Go.Stop Go.Extern
theorem rf_rls (v x:Value):ReflectliteValue.set #[v,x]=(do
  let (some (dst,a,fl),some (src,b,_)):=(← ReflectliteValue.parts v,← ReflectliteValue.parts x)
   | unsupported (.noEntry "extern/(internal/reflectlite.Value).Set.zeroValue")
  if fl / ReflectliteValue.flagAddr % 2==0 then unsupported (.noEntry "extern/(internal/reflectlite.Value).Set.unaddressable")
  let val ← loadVar src b
  if ← Rtype.directlyAssignable dst src then storeVar dst a val
  else if ← Rtype.implements dst src then
   if (← Rtype.kind src)==20 then
    match val with
    | .nilIface=>unsupported (.noEntry "extern/reflectlite: a nil value of one interface type handed on as a value of another")
    | _=>storeVar dst a val
   else storeVar dst a (.iface src val)
  else panicString ("reflectlite.Set: value of type " ++ (← Rtype.spelt src) ++ " is not assignable to type " ++ (← Rtype.spelt dst))
  pure (.tuple #[])):=rfl
theorem size_fault:(Tryz.prog.info? 80).map (·.size)=some 2:=by kernel_rfl
theorem rf_partsA (a:Addr) (w:World):(ReflectliteValue.parts (.agg #[.pointer (some ⟨12,80,none⟩),.pointer (some a),.int .u64 409])).run Tryz.prog w = .ok (some (80,a,409)) w:=by kernel_rfl
theorem rf_partsB (a:Addr) (w:World):(ReflectliteValue.parts (.agg #[.pointer (some ⟨12,80,none⟩),.pointer (some a),.int .u64 153])).run Tryz.prog w = .ok (some (80,a,153)) w:=by kernel_rfl
theorem rf_direct (w:World):(Rtype.directlyAssignable 80 80).run Tryz.prog w = .ok true w:=by kernel_rfl
theorem rf_set (t b:Nat) (c ln o0 o1:Int) (W:World) (hb:Blk W b 80 #[.int .i64 c,.int .i64 ln]) (ht:Blk W t 80 #[.int .i64 o0,.int .i64 o1]) :
  (ReflectliteValue.set #[.agg #[.pointer (some ⟨12,80,none⟩),.pointer (some ⟨t,0,none⟩),.int .u64 409],.agg #[.pointer (some ⟨12,80,none⟩),.pointer (some ⟨b,0,none⟩),.int .u64 153]]).run Tryz.prog W
   = .ok (.tuple #[]) ((W.setCell ⟨t,0,none⟩ (.int .i64 c)).setCell ⟨t,1,none⟩ (.int .i64 ln)):=by
 have hl:=run_loadVar_row W b 80 80 _ (0,0) _ hb Tryz.underlying80 rfl size_fault
 have hs:=run_storeVar_mid (P:=Tryz.prog) W t 0 80 #[.int .i64 c,.int .i64 ln] (fun j hj=>by
  match j,hj with
  | 0,_=>exact ⟨by rw [show W.cell? _=_ from ht.cell 0];rfl,ht.frozen 0⟩
  | 1,_=>exact ⟨by rw [show W.cell? _=_ from ht.cell 1];rfl,ht.frozen 1⟩) size_fault (by kernel_rfl)
 rw [rf_rls]
 simp only [Sem.run_bind,rf_partsA,rf_partsB,Result.andThen]
 simp [ReflectliteValue.flagAddr,hl,rf_direct,hs,Result.andThen,World.setCells]
set_option maxRecDepth 100000 in
set_option maxHeartbeats 4000000 in
theorem as_fault (c ln o0 o1:Int) (t a0:Nat) (w:World) (ht:Blk w t 80 #[.int .i64 o0,.int .i64 o1]) (ha:w.cell? ⟨a0,0,none⟩=some (.pointer (some ⟨t,0,none⟩))) (hla:a0<w.heap.size) :
  Calls Tryz.prog 87 #[faultV c ln,.iface 88 (.pointer (some ⟨t,0,none⟩)),.agg #[.pointer (some ⟨12,88,none⟩),.pointer (some ⟨a0,0,none⟩),.int .u64 150],.iface 151 (.agg #[.pointer (some ⟨12,80,none⟩)])] w fun e w'=>e = .returned (.bool true)∧Blk w' t 80 #[.int .i64 c,.int .i64 ln]∧Turn (fun k=>k=t) w w':=by
 have hVO := @run_callFunc_extern Tryz.prog 84 _ (fun args=>ReflectliteValue.unpack (args.getD 0 (.tuple #[]))) Tryz.func84 (by kernel_rfl) (by kernel_rfl) (by kernel_rfl) (by kernel_rfl)
 have hTO := @run_callFunc_extern Tryz.prog 120 _ ReflectliteType.typeOf Tryz.func120 (by kernel_rfl) (by kernel_rfl) (by kernel_rfl) (by kernel_rfl)
 have hAT := @run_callFunc_extern Tryz.prog 233 _ (ReflectliteType.relation "AssignableTo" ReflectliteType.assignableTo) Tryz.func233 (by kernel_rfl) (by kernel_rfl) (by kernel_rfl) (by kernel_rfl)
 have hVE := @run_callFunc_extern Tryz.prog 121 _ (ReflectliteValue.method (ReflectliteValue.valueError "reflectlite.Value.Elem" 0) ReflectliteValue.elem) Tryz.func121 (by kernel_rfl) (by kernel_rfl) (by kernel_rfl) (by kernel_rfl)
 have hSE := @run_callFunc_extern Tryz.prog 122 _ ReflectliteValue.set Tryz.func122 (by kernel_rfl) (by kernel_rfl) (by kernel_rfl) (by kernel_rfl)
 have tO:=rf_typeOfF
 have mA:=rf_methodAssign
 have aF:=rf_assignF
 have vF:=rf_valueOfF
 have hlt:=ht.lt
 have el:=rf_elemV ⟨a0,0,none⟩ ⟨t,0,none⟩ (w.alloc (.cells #[.pointer (some ⟨12,88,none⟩),.pointer (some ⟨a0,0,none⟩),.int .u64 150] 125)) (by rw [World.cell?_alloc_lt _ _ ⟨a0,0,none⟩ hla];exact ha)
 have hb2:=((Blk.new (w.alloc (.cells #[.pointer (some ⟨12,88,none⟩),.pointer (some ⟨a0,0,none⟩),.int .u64 150] 125)) 80 #[.int .i64 c,.int .i64 ln]))
 rw [World.size_alloc] at hb2
 have st:=rf_set t (w.heap.size+1) c ln o0 o1 ((w.alloc (.cells #[.pointer (some ⟨12,88,none⟩),.pointer (some ⟨a0,0,none⟩),.int .u64 150] 125)).alloc (.cells #[.int .i64 c,.int .i64 ln] 80)) hb2 ((ht.alloc (.cells #[.pointer (some ⟨12,88,none⟩),.pointer (some ⟨a0,0,none⟩),.int .u64 150] 125)).alloc (.cells #[.int .i64 c,.int .i64 ln] 80))
 have HT:=Lib.hid ht
 clear hb2 ht ha
 unfold faultV
 go_enter Tryz.func87,Tryz.ntmps87
 go_wp2
 refine wp_loop_rounds 1 ?_
 rw [rounds_succ]
 go_wp2
 go_ret
 have hb:=(HT.out.set_ 0 (.int .i64 c)).set_ 1 (.int .i64 ln)
 refine ⟨rfl,((show Blk ((w.setCell ⟨t,0,none⟩ (.int .i64 c)).setCell ⟨t,1,none⟩ (.int .i64 ln)) t 80 #[.int .i64 c,.int .i64 ln] from by simpa using hb).alloc _).alloc _,?_⟩
 have t1:=Turn.setCell (Turn.refl (fun k=>k=t) w) (p:=⟨t,0,none⟩) (fun _=>rfl) (.int .i64 c)
 have t2:=Turn.setCell t1 (p:=⟨t,1,none⟩) (fun _=>rfl) (.int .i64 ln)
 exact Turn.alloc (Turn.alloc t2 _) _
set_option maxRecDepth 100000 in
set_option maxHeartbeats 4000000 in
theorem as_join (c ln o0 o1:Int) (t a0 j g:Nat) (w:World) (ht:Blk w t 80 #[.int .i64 o0,.int .i64 o1]) (ha:w.cell? ⟨a0,0,none⟩=some (.pointer (some ⟨t,0,none⟩))) (hla:a0<w.heap.size)
  (hj:w.cell? ⟨j,0,none⟩=some (.slice (some ⟨g,0,none⟩) 1 1)) (hlj:j<w.heap.size) (hg:w.cell? ⟨g,0,none⟩=some (faultV c ln)) (hlg:g<w.heap.size) :
  Calls Tryz.prog 87 #[.iface 115 (.pointer (some ⟨j,0,none⟩)),.iface 88 (.pointer (some ⟨t,0,none⟩)),.agg #[.pointer (some ⟨12,88,none⟩),.pointer (some ⟨a0,0,none⟩),.int .u64 150],.iface 151 (.agg #[.pointer (some ⟨12,80,none⟩)])] w fun e w'=>e = .returned (.bool true)∧Blk w' t 80 #[.int .i64 c,.int .i64 ln]∧Turn (fun k=>k=t) w w':=by
 have hVO := @run_callFunc_extern Tryz.prog 84 _ (fun args=>ReflectliteValue.unpack (args.getD 0 (.tuple #[]))) Tryz.func84 (by kernel_rfl) (by kernel_rfl) (by kernel_rfl) (by kernel_rfl)
 have hTO := @run_callFunc_extern Tryz.prog 120 _ ReflectliteType.typeOf Tryz.func120 (by kernel_rfl) (by kernel_rfl) (by kernel_rfl) (by kernel_rfl)
 have hAT := @run_callFunc_extern Tryz.prog 233 _ (ReflectliteType.relation "AssignableTo" ReflectliteType.assignableTo) Tryz.func233 (by kernel_rfl) (by kernel_rfl) (by kernel_rfl) (by kernel_rfl)
 have hVE := @run_callFunc_extern Tryz.prog 121 _ (ReflectliteValue.method (ReflectliteValue.valueError "reflectlite.Value.Elem" 0) ReflectliteValue.elem) Tryz.func121 (by kernel_rfl) (by kernel_rfl) (by kernel_rfl) (by kernel_rfl)
 have hSE := @run_callFunc_extern Tryz.prog 122 _ ReflectliteValue.set Tryz.func122 (by kernel_rfl) (by kernel_rfl) (by kernel_rfl) (by kernel_rfl)
 have tO:=rf_typeOfJ
 have mA:=rf_methodAssign
 have aJ:=rf_assignJ
 have nA:=rf_noAs
 have nU:=rf_noUnwrap
 have uU:=rf_unwrap
 have mU:=rf_methodUnwrap
 have eF:=eql_fault
 have hlt:=ht.lt
 have HA:=Lib.hid (as_fault c ln o0 o1 t a0 (w.alloc (.cells #[.pointer (some ⟨12,88,none⟩),.pointer (some ⟨a0,0,none⟩),.int .u64 150] 125)) (ht.alloc (.cells #[.pointer (some ⟨12,88,none⟩),.pointer (some ⟨a0,0,none⟩),.int .u64 150] 125)) (by rw [World.cell?_alloc_lt _ _ ⟨a0,0,none⟩ hla];exact ha) (by rw [World.size_alloc];omega))
 have HBX:=Lib.hid (Turn.alloc (Turn.refl (fun k=>k=t) w) (.cells #[.pointer (some ⟨12,88,none⟩),.pointer (some ⟨a0,0,none⟩),.int .u64 150] 125))
 unfold faultV at hg
 clear ht ha
 go_enter Tryz.func87,Tryz.ntmps87
 go_wp2
 refine wp_loop_rounds 1 ?_
 rw [rounds_succ]
 go_wp2
 refine wp_loop_rounds 1 ?_
 rw [rounds_succ]
 go_wp2_with fail
 refine HA.out.mono ?_
 rintro e w9 ⟨rfl,hb,ht⟩
 have H9:=Lib.hid (And.intro hb (Turn.trans HBX.out ht (fun _ _ e=>e)))
 clear hb ht
 go_wp2
 go_ret
 exact ⟨rfl,H9.out⟩
set_option maxRecDepth 100000 in
set_option maxHeartbeats 4000000 in
theorem as_calls (c ln o0 o1:Int) (t j g:Nat) (w:World) (hET:w.cell? ⟨0,0,none⟩=some (.iface 151 (.agg #[.pointer (some ⟨12,48,none⟩)]))) (hE0:0<w.heap.size) (ht:Blk w t 80 #[.int .i64 o0,.int .i64 o1])
  (hj:w.cell? ⟨j,0,none⟩=some (.slice (some ⟨g,0,none⟩) 1 1)) (hlj:j<w.heap.size) (hg:w.cell? ⟨g,0,none⟩=some (faultV c ln)) (hlg:g<w.heap.size) :
  Calls Tryz.prog 52 #[.iface 115 (.pointer (some ⟨j,0,none⟩)),.iface 88 (.pointer (some ⟨t,0,none⟩))] w fun e w'=>e = .returned (.bool true)∧Blk w' t 80 #[.int .i64 c,.int .i64 ln]∧Turn (fun k=>k=t) w w':=by
 have hVO := @run_callFunc_extern Tryz.prog 84 _ (fun args=>ReflectliteValue.unpack (args.getD 0 (.tuple #[]))) Tryz.func84 (by kernel_rfl) (by kernel_rfl) (by kernel_rfl) (by kernel_rfl)
 have hTY := @run_callFunc_extern Tryz.prog 85 _ (ReflectliteValue.methodAny (ReflectliteValue.valueError "reflectlite.Value.Type" 0) (fun t _ _ _=>ReflectliteType.toType t)) Tryz.func85 (by kernel_rfl) (by kernel_rfl) (by kernel_rfl) (by kernel_rfl)
 have hNI := @run_callFunc_extern Tryz.prog 86 _ (ReflectliteValue.method (ReflectliteValue.valueError "reflectlite.Value.IsNil" 0) ReflectliteValue.isNil) Tryz.func86 (by kernel_rfl) (by kernel_rfl) (by kernel_rfl) (by kernel_rfl)
 have hKI := @run_callFunc_extern Tryz.prog 222 _ (ReflectliteType.abiMethod fun t=>do pure (.int .u8 (← Rtype.kind t))) Tryz.func222 (by kernel_rfl) (by kernel_rfl) (by kernel_rfl) (by kernel_rfl)
 have hEL := @run_callFunc_extern Tryz.prog 235 _ (ReflectliteType.method ReflectliteType.elem) Tryz.func235 (by kernel_rfl) (by kernel_rfl) (by kernel_rfl) (by kernel_rfl)
 have hIM := @run_callFunc_extern Tryz.prog 236 _ (ReflectliteType.relation "Implements" ReflectliteType.implements_) Tryz.func236 (by kernel_rfl) (by kernel_rfl) (by kernel_rfl) (by kernel_rfl)
 have vO:=rf_valueOf
 have tY:=rf_type
 have mK:=rf_methodKind
 have mE:=rf_methodElem
 have mI:=rf_methodImpl
 have kP:=rf_kindP
 have kF:=rf_kindF
 have eL:=rf_elem
 have iM:=rf_impl
 have hlt:=ht.lt
 have nI:=rf_isNil ⟨w.heap.size,0,none⟩ ⟨t,0,none⟩ ((w.alloc (.cells #[.pointer (some ⟨t,0,none⟩)] 88)).alloc (.cells #[.pointer (some ⟨12,88,none⟩),.pointer (some ⟨w.heap.size,0,none⟩),.int .u64 150] 125)) (by rw [World.cell?_alloc_lt _ _ ⟨w.heap.size,0,none⟩ (by rw [World.size_alloc];show w.heap.size<_;omega)];exact (Blk.new w 88 #[.pointer (some ⟨t,0,none⟩)]).cell 0)
 have hE2:((w.alloc (.cells #[.pointer (some ⟨t,0,none⟩)] 88)).alloc (.cells #[.pointer (some ⟨12,88,none⟩),.pointer (some ⟨w.heap.size,0,none⟩),.int .u64 150] 125)).cell? ⟨0,0,none⟩=some (.iface 151 (.agg #[.pointer (some ⟨12,48,none⟩)])):=by rw [World.cell?_alloc_lt _ _ ⟨0,0,none⟩ (by rw [World.size_alloc];show 0<_;omega),World.cell?_alloc_lt _ _ ⟨0,0,none⟩ hE0];exact hET
 have HA:=Lib.hid (as_join c ln o0 o1 t w.heap.size j g ((w.alloc (.cells #[.pointer (some ⟨t,0,none⟩)] 88)).alloc (.cells #[.pointer (some ⟨12,88,none⟩),.pointer (some ⟨w.heap.size,0,none⟩),.int .u64 150] 125)) ((ht.alloc (.cells #[.pointer (some ⟨t,0,none⟩)] 88)).alloc (.cells #[.pointer (some ⟨12,88,none⟩),.pointer (some ⟨w.heap.size,0,none⟩),.int .u64 150] 125)) (by rw [World.cell?_alloc_lt _ _ ⟨w.heap.size,0,none⟩ (by rw [World.size_alloc];show w.heap.size<_;omega)];exact (Blk.new w 88 #[.pointer (some ⟨t,0,none⟩)]).cell 0) (by rw [World.size_alloc,World.size_alloc];omega)
  (by rw [World.cell?_alloc_lt _ _ ⟨j,0,none⟩ (by rw [World.size_alloc];show j<_;omega),World.cell?_alloc_lt _ _ ⟨j,0,none⟩ hlj];exact hj) (by rw [World.size_alloc,World.size_alloc];omega)
  (by rw [World.cell?_alloc_lt _ _ ⟨g,0,none⟩ (by rw [World.size_alloc];show g<_;omega),World.cell?_alloc_lt _ _ ⟨g,0,none⟩ hlg];exact hg) (by rw [World.size_alloc,World.size_alloc];omega))
 have HBX:=Lib.hid (Turn.alloc (Turn.alloc (Turn.refl (fun k=>k=t) w) (.cells #[.pointer (some ⟨t,0,none⟩)] 88)) (.cells #[.pointer (some ⟨12,88,none⟩),.pointer (some ⟨w.heap.size,0,none⟩),.int .u64 150] 125))
 clear ht hj hg hET
 go_enter Tryz.func52,Tryz.ntmps52
 go_wp2_with fail
 refine HA.out.mono ?_
 rintro e w9 ⟨rfl,hb,ht⟩
 have H9:=Lib.hid (And.intro hb (Turn.trans HBX.out ht (fun _ _ e=>e)))
 clear hb ht
 go_wp2
 go_ret
 exact ⟨rfl,H9.out⟩
end
end Go.Proofs.YtjjdmiaonkailaaGreatDoor
