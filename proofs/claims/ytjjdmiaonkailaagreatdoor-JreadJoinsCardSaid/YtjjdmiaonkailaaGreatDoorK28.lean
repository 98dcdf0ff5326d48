/- Walks and plain laws, packed: Told. -/
import Derived.Test.YtjjdmiaonkailaaGreatDoorK26
import Derived.Test.YtjjdmiaonkailaaGreatDoorK27
import Derived.WalkMore
import Derived.BigRegion
import Derived.Test.YtjjdmiaonkailaaGreatDoorK25
namespace Go.Proofs.YtjjdmiaonkailaaGreatDoor
section
open Go.RowKit Go.Sort
def IsR (fid:FuncId) (f:Tree→Bool):Prop:=(∀ args w,(callFunc fid args).run Tryz.prog w = .ok (.enter fid args) w) ∧
 ∀ d w t sl,Laid w→Kids w d t.l sl→t.ok→Calls Tryz.prog fid #[.agg #[.int .i64 t.op,.string t.s,.int .i64 t.n,sl,.int .i64 t.line]] w fun e w'=>e = .returned (.bool (f t))∧Below w.heap.size w w'
theorem res_ctt {fn:Func} {p u v:Tmp} {ty:TypeId} (h:fn.results=#[.cell p ty,.tmp u,.tmp v]) (tmps:Array Value) (P:Program) (w:World) :
  (results fn tmps).run P w=((asAddr (tmps.getD p undef)).run P w).andThen fun a w₁ => ((loadVar ty a).run P w₁).andThen fun x w₂ => .ok (.tuple #[x,tmps.getD u undef,tmps.getD v undef]) w₂ := by
 simp only [results,h]
 simp [Sem.run_bind,Result.andThen]
theorem ret_three {fn:Func} {p u v:Tmp} {R:Ending→World→Prop} {a:Act} {w:World} {g:Nat} {t:TypeId} {v0 v1 v2 v3 v4 x y:Value} (hk:Blk w g t #[v0,v1,v2,v3,v4]) (h:fn.results=#[.cell p 29,.tmp u,.tmp v]) (hd:a.defers=[]) (hp:a.tmps.getD p undef = .pointer (some ⟨g,0,none⟩)) (hu:a.tmps.getD u undef=x) (hv:a.tmps.getD v undef=y)
  (hR:R (.returned (.tuple #[.agg #[v0,v1,v2,v3,v4],x,y])) w):bodyPost Tryz.prog fn R .ret a w:=by
 refine bodyPost_ret ?_ hd hR
 rw [res_ctt h,hp,hu,hv]
 simp [asAddr,run_loadVar_row w g t 29 _ (0,0) _ hk Tryz.underlying29 rfl size_node,Result.andThen]
abbrev nodeV (t:Tree) (sl:Value):Value := .agg #[.int .i64 t.op,.string t.s,.int .i64 t.n,sl,.int .i64 t.line]
abbrev zeroV:Value := .agg #[.int .i64 0,.string ⟨#[]⟩,.int .i64 0,.slice none 0 0,.int .i64 0]
set_option maxRecDepth 100000 in
set_option maxHeartbeats 8000000 in
theorem told_tree {fid:FuncId} {f:Tree→Bool} (HR:IsR fid f) (w:World) (t:Tree) (A:Option Addr) (c d:Nat) (hk:Kids w d t.l (.slice A t.l.length c)) (hlu:LaidU w.heap.size w) (hok:t.ok) :
  Calls Tryz.prog 28 #[nodeV t (.slice A t.l.length c),.nilIface,.func (.func fid) #[] #[]] w fun e w'=>e = .returned (.tuple #[if f t then nodeV t (.slice A t.l.length c) else zeroV,.int .i64 0,.int .i64 (if f t then 0 else 41)])∧Below w.heap.size w w':=by
 have HK:=Lib.hid hk
 have HOK:=Lib.hid hok
 have HLU:=Lib.hid hlu
 have hen:=HR.1
 clear hk hok hlu
 obtain ⟨bv,hft⟩ : ∃ b,f t=b:=⟨_,rfl⟩
 rw [hft]
 cases bv with
 | true =>
  go_enter Tryz.func28,Tryz.ntmps28
  go_wp2_with fail
  refine (as_nil _ _).mono ?_
  rintro e w2 ⟨rfl,rfl⟩
  go_wp2_with fail
  have hb3:Below w.heap.size w (((w.alloc (.cells #[.int .i64 t.op,.string t.s,.int .i64 t.n,.slice A t.l.length c,.int .i64 t.line] 29)).alloc (.cells zeroN 29)).alloc (.cells #[.int .i64 0,.int .i64 0] 80)):=(((Below.refl _ _).alloc (Nat.le_refl _) _).alloc (by rw [World.size_alloc];omega) _).alloc (by rw [World.size_alloc,World.size_alloc];omega) _
  have ht3:Blk (((w.alloc (.cells #[.int .i64 t.op,.string t.s,.int .i64 t.n,.slice A t.l.length c,.int .i64 t.line] 29)).alloc (.cells zeroN 29)).alloc (.cells #[.int .i64 0,.int .i64 0] 80)) w.heap.size 29 #[.int .i64 t.op,.string t.s,.int .i64 t.n,.slice A t.l.length c,.int .i64 t.line]:=((Blk.new w _ _).alloc _).alloc _
  have hr3:Blk (((w.alloc (.cells #[.int .i64 t.op,.string t.s,.int .i64 t.n,.slice A t.l.length c,.int .i64 t.line] 29)).alloc (.cells zeroN 29)).alloc (.cells #[.int .i64 0,.int .i64 0] 80)) (w.heap.size+1) 29 zeroN:=by have h:=(Blk.new (w.alloc (.cells #[.int .i64 t.op,.string t.s,.int .i64 t.n,.slice A t.l.length c,.int .i64 t.line] 29)) 29 zeroN).alloc (.cells #[.int .i64 0,.int .i64 0] 80);rw [World.size_alloc] at h;exact h
  have hz3:w.heap.size+1<((((w.alloc (.cells #[.int .i64 t.op,.string t.s,.int .i64 t.n,.slice A t.l.length c,.int .i64 t.line] 29)).alloc (.cells zeroN 29)).alloc (.cells #[.int .i64 0,.int .i64 0] 80))).heap.size:=hr3.lt
  refine (HR.2 d _ t _ (HLU.out _ hb3) (HK.out.below hb3) HOK.out).mono ?_
  rintro e w5 ⟨rfl,hb5⟩
  rw [hft]
  have ht5:=ht3.keep (hb5.block _ (by omega))
  have hr5:=hr3.keep (hb5.block _ hz3)
  have hb6:=hb3.trans (hb5.mono hb3.size)
  have hz5:=hr5.lt
  clear hb3 ht3 hr3 hz3 hen
  obtain ⟨⟨a0,a1,a2,a3,a4⟩,-⟩:=ht5.five
  obtain ⟨⟨b0,b1,b2,b3,b4⟩,g0,g1,g2,g3,g4⟩:=hr5.five
  clear ht5
  have HE:=Lib.hid (And.intro (hr5.set5 (.int .i64 t.op) (.string t.s) (.int .i64 t.n) (.slice A t.l.length c) (.int .i64 t.line)) (show Below w.heap.size w (sets5 w5 (w.heap.size+1) (.int .i64 t.op) (.string t.s) (.int .i64 t.n) (.slice A t.l.length c) (.int .i64 t.line)) from hb6.trans ⟨rfl,rfl,rfl,by simp [sets5,World.setCell],fun k hk=>by unfold sets5;rw [Below.heap_setCell _ _ _ _ (by show k≠w.heap.size+1;omega),Below.heap_setCell _ _ _ _ (by show k≠w.heap.size+1;omega),Below.heap_setCell _ _ _ _ (by show k≠w.heap.size+1;omega),Below.heap_setCell _ _ _ _ (by show k≠w.heap.size+1;omega),Below.heap_setCell _ _ _ _ (by show k≠w.heap.size+1;omega)]⟩))
  clear hr5 hb5 hb6
  go_wp2
  refine ret_three HE.out.1 rfl rfl rfl rfl rfl ?_
  exact ⟨rfl,HE.out.2⟩
 | false =>
  go_enter Tryz.func28,Tryz.ntmps28
  go_wp2_with fail
  refine (as_nil _ _).mono ?_
  rintro e w2 ⟨rfl,rfl⟩
  go_wp2_with fail
  have hb3:Below w.heap.size w (((w.alloc (.cells #[.int .i64 t.op,.string t.s,.int .i64 t.n,.slice A t.l.length c,.int .i64 t.line] 29)).alloc (.cells zeroN 29)).alloc (.cells #[.int .i64 0,.int .i64 0] 80)):=(((Below.refl _ _).alloc (Nat.le_refl _) _).alloc (by rw [World.size_alloc];omega) _).alloc (by rw [World.size_alloc,World.size_alloc];omega) _
  have ht3:Blk (((w.alloc (.cells #[.int .i64 t.op,.string t.s,.int .i64 t.n,.slice A t.l.length c,.int .i64 t.line] 29)).alloc (.cells zeroN 29)).alloc (.cells #[.int .i64 0,.int .i64 0] 80)) w.heap.size 29 #[.int .i64 t.op,.string t.s,.int .i64 t.n,.slice A t.l.length c,.int .i64 t.line]:=((Blk.new w _ _).alloc _).alloc _
  have hr3:Blk (((w.alloc (.cells #[.int .i64 t.op,.string t.s,.int .i64 t.n,.slice A t.l.length c,.int .i64 t.line] 29)).alloc (.cells zeroN 29)).alloc (.cells #[.int .i64 0,.int .i64 0] 80)) (w.heap.size+1) 29 zeroN:=by have h:=(Blk.new (w.alloc (.cells #[.int .i64 t.op,.string t.s,.int .i64 t.n,.slice A t.l.length c,.int .i64 t.line] 29)) 29 zeroN).alloc (.cells #[.int .i64 0,.int .i64 0] 80);rw [World.size_alloc] at h;exact h
  have hz3:w.heap.size+1<((((w.alloc (.cells #[.int .i64 t.op,.string t.s,.int .i64 t.n,.slice A t.l.length c,.int .i64 t.line] 29)).alloc (.cells zeroN 29)).alloc (.cells #[.int .i64 0,.int .i64 0] 80))).heap.size:=hr3.lt
  refine (HR.2 d _ t _ (HLU.out _ hb3) (HK.out.below hb3) HOK.out).mono ?_
  rintro e w5 ⟨rfl,hb5⟩
  rw [hft]
  have ht5:=ht3.keep (hb5.block _ (by omega))
  have hr5:=hr3.keep (hb5.block _ hz3)
  have hb6:=hb3.trans (hb5.mono hb3.size)
  have hz5:=hr5.lt
  clear hb3 ht3 hr3 hz3 hen
  obtain ⟨⟨a0,a1,a2,a3,a4⟩,-⟩:=ht5.five
  obtain ⟨⟨b0,b1,b2,b3,b4⟩,g0,g1,g2,g3,g4⟩:=hr5.five
  clear ht5
  have HE:=Lib.hid (And.intro (hr5.set5 (.int .i64 0) (.string ⟨#[]⟩) (.int .i64 0) (.slice none 0 0) (.int .i64 0)) (show Below w.heap.size w (sets5 w5 (w.heap.size+1) (.int .i64 0) (.string ⟨#[]⟩) (.int .i64 0) (.slice none 0 0) (.int .i64 0)) from hb6.trans ⟨rfl,rfl,rfl,by simp [sets5,World.setCell],fun k hk=>by unfold sets5;rw [Below.heap_setCell _ _ _ _ (by show k≠w.heap.size+1;omega),Below.heap_setCell _ _ _ _ (by show k≠w.heap.size+1;omega),Below.heap_setCell _ _ _ _ (by show k≠w.heap.size+1;omega),Below.heap_setCell _ _ _ _ (by show k≠w.heap.size+1;omega),Below.heap_setCell _ _ _ _ (by show k≠w.heap.size+1;omega)]⟩))
  clear hr5 hb5 hb6
  go_wp2
  refine ret_three HE.out.1 rfl rfl rfl rfl rfl ?_
  exact ⟨rfl,HE.out.2⟩
set_option maxRecDepth 100000 in
set_option maxHeartbeats 8000000 in
theorem told_fault (fid:FuncId) (w:World) (c ln:Int) (j g:Nat) (hET:w.cell? ⟨0,0,none⟩=some (.iface 151 (.agg #[.pointer (some ⟨12,48,none⟩)]))) (hE0:0<w.heap.size) (hj:w.cell? ⟨j,0,none⟩=some (.slice (some ⟨g,0,none⟩) 1 1)) (hlj:j<w.heap.size) (hg:w.cell? ⟨g,0,none⟩=some (faultV c ln)) (hlg:g<w.heap.size) :
  Calls Tryz.prog 28 #[zeroV,.iface 115 (.pointer (some ⟨j,0,none⟩)),.func (.func fid) #[] #[]] w fun e w'=>e = .returned (.tuple #[zeroV,.int .i64 ln,.int .i64 c])∧Below w.heap.size w w':=by
 have hb3:Below w.heap.size w (((w.alloc (.cells zeroN 29)).alloc (.cells zeroN 29)).alloc (.cells #[.int .i64 0,.int .i64 0] 80)):=(((Below.refl _ _).alloc (Nat.le_refl _) _).alloc (by rw [World.size_alloc];omega) _).alloc (by rw [World.size_alloc,World.size_alloc];omega) _
 have hr3:Blk (((w.alloc (.cells zeroN 29)).alloc (.cells zeroN 29)).alloc (.cells #[.int .i64 0,.int .i64 0] 80)) (w.heap.size+1) 29 zeroN:=by have h:=(Blk.new (w.alloc (.cells zeroN 29)) 29 zeroN).alloc (.cells #[.int .i64 0,.int .i64 0] 80);rw [World.size_alloc] at h;exact h
 have hf3:Blk (((w.alloc (.cells zeroN 29)).alloc (.cells zeroN 29)).alloc (.cells #[.int .i64 0,.int .i64 0] 80)) (w.heap.size+1+1) 80 #[.int .i64 0,.int .i64 0]:=by have h:=Blk.new ((w.alloc (.cells zeroN 29)).alloc (.cells zeroN 29)) 80 #[.int .i64 0,.int .i64 0];rw [World.size_alloc,World.size_alloc] at h;exact h
 have hz3:=hf3.lt
 have HA:=Lib.hid (as_calls c ln 0 0 (w.heap.size+1+1) j g (((w.alloc (.cells zeroN 29)).alloc (.cells zeroN 29)).alloc (.cells #[.int .i64 0,.int .i64 0] 80)) ((World.cell?_of_block (hb3.block 0 hE0)).trans hET) (by omega) hf3 ((World.cell?_of_block (hb3.block j hlj)).trans hj) (by omega) ((World.cell?_of_block (hb3.block g hlg)).trans hg) (by omega))
 have HB3:=Lib.hid hb3
 have HR3:=Lib.hid hr3
 clear hb3 hr3 hf3 hET hj hg
 go_enter Tryz.func28,Tryz.ntmps28
 go_wp2_with fail
 refine HA.out.mono ?_
 rintro e w4 ⟨rfl,hf4,ht4⟩
 have hr4:=HR3.out.turn ht4 (by omega)
 have hb4:=HB3.out.trans (ht4.below (B:=w.heap.size) (by omega) (fun k e=>by omega))
 have hz4:=hf4.lt
 obtain ⟨⟨b0,b1,b2,b3,b4⟩,g0,g1,g2,g3,g4⟩:=hr4.five
 have f0:=hf4.cell 0
 have f1:=hf4.cell 1
 simp only [List.getElem?_toArray,List.getElem?_cons_zero,List.getElem?_cons_succ] at f0 f1
 have HE:=Lib.hid (And.intro (hr4.dr.set5 (.int .i64 0) (.string ⟨#[]⟩) (.int .i64 0) (.slice none 0 0) (.int .i64 0)) (show Below w.heap.size w (sets5 w4.drew (w.heap.size+1) (.int .i64 0) (.string ⟨#[]⟩) (.int .i64 0) (.slice none 0 0) (.int .i64 0)) from hb4.drew.trans ⟨rfl,rfl,rfl,by simp [sets5,World.setCell],fun k hk=>by unfold sets5;rw [Below.heap_setCell _ _ _ _ (by show k≠w.heap.size+1;omega),Below.heap_setCell _ _ _ _ (by show k≠w.heap.size+1;omega),Below.heap_setCell _ _ _ _ (by show k≠w.heap.size+1;omega),Below.heap_setCell _ _ _ _ (by show k≠w.heap.size+1;omega),Below.heap_setCell _ _ _ _ (by show k≠w.heap.size+1;omega)]⟩))
 clear hf4 hr4 hb4 ht4 HR3 HB3 HA
 go_wp2_with fail
 go_region
 all_goals (try go_wp2)
 all_goals refine ret_three HE.out.1 rfl rfl rfl rfl rfl ?_
 all_goals exact ⟨rfl,HE.out.2⟩
end
end Go.Proofs.YtjjdmiaonkailaaGreatDoor
