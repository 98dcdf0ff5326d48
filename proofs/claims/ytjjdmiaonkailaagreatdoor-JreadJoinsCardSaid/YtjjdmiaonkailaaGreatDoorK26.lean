/- Walks and plain laws, packed: Read2. -/
import Derived.Test.YtjjdmiaonkailaaGreatDoorK19
import Derived.Test.YtjjdmiaonkailaaGreatDoorK18
import Derived.WalkMore
import Derived.Defers
import Derived.Deep.CutRange
import Derived.Test.YtjjdmiaonkailaaGreatDoorK25
namespace Go.Proofs.YtjjdmiaonkailaaGreatDoor
section
open Go.RowKit Go.Sort
theorem TokSl.mono {B B':Nat} {W:World} {l:List Tl} {v:Value} (h:TokSl B W l v) (hB:B≤B'):TokSl B' W l v:=by
 obtain ⟨h0,A,c,rfl,h⟩:=h
 refine ⟨h0,A,c,rfl,fun k t hk => ?_⟩
 obtain ⟨g,o,rfl,h1,h2,h3⟩:=h k t hk
 exact ⟨g,o,rfl,⟨by omega,h1.2⟩,h2,h3⟩
def PostN (w:World) (y:Except (Int × Int) (Tree × List Tl)) (e:Ending) (w':World):Prop :=
 match y with
 | .ok (t,_) => ∃ d A c,e = .returned (.tuple #[.agg #[.int .i64 t.op,.string t.s,.int .i64 t.n,.slice A t.l.length c,.int .i64 t.line],.nilIface])∧t.ok∧TrU w.heap.size w' d t.l (.slice A t.l.length c)∧Below w.heap.size w w'
 | .error (c,ln) => ∃ j g,e = .returned (.tuple #[.agg #[.int .i64 0,.string ⟨#[]⟩,.int .i64 0,.slice none 0 0,.int .i64 0],.iface 115 (.pointer (some ⟨j,0,none⟩))])∧w'.cell? ⟨j,0,none⟩=some (.slice (some ⟨g,0,none⟩) 1 1)∧w'.cell? ⟨g,0,none⟩=some (faultV c ln)∧j<w'.heap.size∧g<w'.heap.size∧Below w.heap.size w w'
def OneC (fid:FuncId) (l:List Tl) (one:Rd Tree):Prop:=(∀ args w,(callFunc fid args).run Tryz.prog w = .ok (.enter fid args) w) ∧
 ∀ rb w1 y1,St w1 rb (lastF l) l→one=some y1→Calls Tryz.prog fid #[rdP rb] w1 (PostS rb (lastF l) w1 (NodeV w1.heap.size) y1)
theorem res_cells {fn:Func} {p q:Tmp} {ty ty2:TypeId} (h:fn.results=#[.cell p ty,.cell q ty2]) (tmps:Array Value) (P:Program) (w:World) :
  (results fn tmps).run P w =
   ((asAddr (tmps.getD p undef)).run P w).andThen fun a w₁ => ((loadVar ty a).run P w₁).andThen fun v w₂ => ((asAddr (tmps.getD q undef)).run P w₂).andThen fun b w₃ => ((loadVar ty2 b).run P w₃).andThen fun u w₄ => .ok (.tuple #[v,u]) w₄ := by
 simp only [results,h]
 simp [Sem.run_bind,Result.andThen]
theorem two_res {fn:Func} {p q:Tmp} {tmps:Array Value} {w:World} {g b:Nat} {v0 v1 v2 v3 v4 e:Value} (hk:Blk w g 29 #[v0,v1,v2,v3,v4]) (hb:w.cell? ⟨b,0,none⟩=some e) (h:fn.results=#[.cell p 29,.cell q 48]) (hp:tmps.getD p undef = .pointer (some ⟨g,0,none⟩)) (hq:tmps.getD q undef = .pointer (some ⟨b,0,none⟩)) :
  (results fn tmps).run Tryz.prog w = .ok (.tuple #[.agg #[v0,v1,v2,v3,v4],e]) w:=by
 have h1:=run_loadVar_row w g 29 29 _ (0,0) _ hk Tryz.underlying29 rfl size_node
 have h2:(loadVar 48 ⟨b,0,none⟩).run Tryz.prog w = .ok e w:=by simp [loadVar,isAgg,underlying,Tryz.underlying48,hb,Result.andThen]
 rw [res_cells h,hp,hq]
 simp [asAddr,h1,h2,Result.andThen]
theorem read_caught {w w4:World} {tmps:Array Value} {a0 a1 a2 a3 a4 b0:Value} (c ln:Int) (hp:Blk w4 w.heap.size 29 #[a0,a1,a2,a3,a4]) (hq:Blk w4 (w.heap.size+1) 48 #[b0]) (hb:Below w.heap.size w w4) (h6:tmps.getD 6 undef = .pointer (some ⟨w.heap.size,0,none⟩)) (h7:tmps.getD 7 undef = .pointer (some ⟨w.heap.size+1,0,none⟩)) :
  Leaves Tryz.prog Tryz.f26 tmps (PostN w (.error (c,ln))) [{ target := .fn (.func 47) #[.pointer (some ⟨w.heap.size,0,none⟩),.pointer (some ⟨w.heap.size+1,0,none⟩)],args:=#[] }] (.panicking (pan c ln)) w4:=by
 refine leaves_cons (f:=47) (args:=#[.pointer (some ⟨w.heap.size,0,none⟩),.pointer (some ⟨w.heap.size+1,0,none⟩)]) (by simp) ?_ ?_
 ·simp [invoke,go_sem]
 refine (catch_fault c ln w.heap.size (w.heap.size+1) _ _ _ _ _ _ w4 (by omega) hp hq).mono ?_
 rintro e u' w5 ⟨rfl,hset,j,g,k1,k2,k3,k4,k5,k6,k7⟩
 show Leaves _ _ _ _ [] (settle u') w5
 rw [hset]
 refine ⟨_,two_res k1 (k2.cell 0) rfl h6 h7,j,g,rfl,k3,k4,k5,k6,hb.trans (k7.below (by have:=hb.size;omega) (fun k e=>by omega))⟩
theorem read_idle {w w4:World} {tmps:Array Value} {t:Tree} {r:List Tl} {A:Option Addr} {c d:Nat} (hp:Blk w4 w.heap.size 29 #[.int .i64 t.op,.string t.s,.int .i64 t.n,.slice A t.l.length c,.int .i64 t.line]) (hq:Blk w4 (w.heap.size+1) 48 #[.nilIface]) (hok:t.ok) (htr:TrU w.heap.size w4 d t.l (.slice A t.l.length c)) (hb:Below w.heap.size w w4) (h6:tmps.getD 6 undef = .pointer (some ⟨w.heap.size,0,none⟩)) (h7:tmps.getD 7 undef = .pointer (some ⟨w.heap.size+1,0,none⟩)) :
  Leaves Tryz.prog Tryz.f26 tmps (PostN w (.ok (t,r))) [{ target := .fn (.func 47) #[.pointer (some ⟨w.heap.size,0,none⟩),.pointer (some ⟨w.heap.size+1,0,none⟩)],args:=#[] }] .returning w4:=by
 refine leaves_cons (f:=47) (args:=#[.pointer (some ⟨w.heap.size,0,none⟩),.pointer (some ⟨w.heap.size+1,0,none⟩)]) (by simp) ?_ ?_
 ·simp [invoke,go_sem]
 refine (catch_idle ⟨w.heap.size,0,none⟩ ⟨w.heap.size+1,0,none⟩ w4).mono ?_
 rintro e u' w5 ⟨rfl,rfl,rfl⟩
 show Leaves _ _ _ _ [] .returning _
 have hz:=hb.size
 refine ⟨_,two_res (hp.alloc _) ((hq.alloc _).cell 0) rfl h6 h7,d,A,c,rfl,hok,htr.al _,hb.alloc hz _⟩
theorem zero_no {n:Nat} {k:Int} (h:(zeroN)[n]? = some (Value.int .i64 k)):k=0:=by
 have h5:n=0∨n=1∨n=2∨n=3∨n=4∨5≤n:=by omega
 rcases h5 with rfl | rfl | rfl | rfl | rfl | h5
 ·have e:(Value.int .i64 0) = .int .i64 k:=Option.some.inj h
  injection e with _ e
  exact e.symm
 ·exact absurd (Option.some.inj h) (by simp)
 ·have e:(Value.int .i64 0) = .int .i64 k:=Option.some.inj h
  injection e with _ e
  exact e.symm
 ·exact absurd (Option.some.inj h) (by simp)
 ·have e:(Value.int .i64 0) = .int .i64 k:=Option.some.inj h
  injection e with _ e
  exact e.symm
 ·rw [Array.getElem?_eq_none (by simpa using h5)] at h
  cases h
theorem St.away {w:World} {rb last p:Nat} {l:List Tl} (h:St w rb last l) (hp:Blk w p 29 zeroN) (hpr:p≠rb) (v0 v1 v2 v3 v4:Value) (hla:LaidU rb (sets5 w p v0 v1 v2 v3 v4)):St (sets5 w p v0 v1 v2 v3 v4) rb last l:=by
 obtain ⟨A,c,h⟩:=h
 have hk : ∀ k,k≠p→(sets5 w p v0 v1 v2 v3 v4).heap[k]? = w.heap[k]? := fun k hk=>by
  unfold sets5
  rw [Below.heap_setCell _ _ _ _ hk,Below.heap_setCell _ _ _ _ hk,Below.heap_setCell _ _ _ _ hk,Below.heap_setCell _ _ _ _ hk,Below.heap_setCell _ _ _ _ hk]
 refine ⟨A,c,h.blk.keep (hk _ (Ne.symm hpr)),?_,hla⟩
 obtain ⟨h0,A',c',hv,ht⟩:=h.toks
 refine ⟨h0,A',c',hv,fun k t hkt => ?_⟩
 obtain ⟨g,o,hA,h1,h2,h3⟩:=ht k t hkt
 refine ⟨g,o,hA,h1,h2,fun j hj => ?_⟩
 by_cases hg:g=p
 ·exfalso
  subst hg
  have h4:w.cell? ⟨g,o+(k*5+0),none⟩=some (.int .i64 t.t.kind):=h3 0 (by omega)
  have h5:=hp.cell (o+(k*5+0))
  have h6:=zero_no (h5.symm.trans h4)
  have hk0:=h2.k0
  omega
 ·have e1:=hk g hg
  generalize sets5 w p v0 v1 v2 v3 v4=w9 at e1 ⊢
  have e2:w9.cell? ⟨g,o+(k*5+j),none⟩=w.cell? ⟨g,o+(k*5+j),none⟩:=World.cell?_of_block e1
  exact e2.trans (h3 j hj)
theorem lastF_get {l:List Tl} {t:Tl} (h:l[l.length-1]? = some t):lastF l=t.line:=by
 unfold lastF
 rw [List.getLast?_eq_getElem?,h]
 rfl
set_option maxRecDepth 100000 in
set_option maxHeartbeats 16000000 in
theorem read_calls (fid:FuncId) (thing:Bool) (l:List Tl) (v:Value) (w:World) (hv:TokSl w.heap.size w l v) (hla:LaidU w.heap.size w) (one:Rd Tree) (HO:OneC fid l one) (y:Except (Int × Int) (Tree × List Tl)) (hy:allRead (lastF l) thing one=some y) :
  Calls Tryz.prog 26 #[v,.bool thing,.func (.func fid) #[] #[]] w (PostN w y):=by
 have hvv:=hv
 obtain ⟨hl0,A,c,rfl,hcell⟩:=hv
 have HV:=Lib.hid hvv
 have HLA:=Lib.hid hla
 have HY:=Lib.hid hy
 have hb3:Below w.heap.size w (((w.alloc (.cells zeroN 29)).alloc (.cells #[.nilIface] 48)).alloc (.cells #[.slice A l.length c,.int .i64 0] 67)):=(((Below.refl _ _).alloc (Nat.le_refl _) _).alloc (by rw [World.size_alloc];omega) _).alloc (by rw [World.size_alloc,World.size_alloc];omega) _
 have hp3:Blk (((w.alloc (.cells zeroN 29)).alloc (.cells #[.nilIface] 48)).alloc (.cells #[.slice A l.length c,.int .i64 0] 67)) w.heap.size 29 zeroN:=((Blk.new w 29 zeroN).alloc _).alloc _
 have hq3:Blk (((w.alloc (.cells zeroN 29)).alloc (.cells #[.nilIface] 48)).alloc (.cells #[.slice A l.length c,.int .i64 0] 67)) (w.heap.size+1) 48 #[.nilIface]:=by have h:=(Blk.new (w.alloc (.cells zeroN 29)) 48 #[.nilIface]).alloc (.cells #[.slice A l.length c,.int .i64 0] 67);rw [World.size_alloc] at h;exact h
 have hr3:Blk (((w.alloc (.cells zeroN 29)).alloc (.cells #[.nilIface] 48)).alloc (.cells #[.slice A l.length c,.int .i64 0] 67)) (w.heap.size+1+1) 67 #[.slice A l.length c,.int .i64 0]:=by have h:=Blk.new ((w.alloc (.cells zeroN 29)).alloc (.cells #[.nilIface] 48)) 67 #[.slice A l.length c,.int .i64 0];rw [World.size_alloc,World.size_alloc] at h;exact h
 have HB3:=Lib.hid hb3
 have HP3:=Lib.hid hp3
 have HQ3:=Lib.hid hq3
 have HR3:=Lib.hid hr3
 clear hvv hla hy hb3 hp3 hq3 hr3
 go_enter_defers Tryz.func26,Tryz.ntmps26
 go_upto_if 15 with fail
 refine wp_midN (fun f=>{ tmps:=#[.slice A l.length c,.bool thing,.func (.func fid) #[] #[],f 3,f 4,f 5,.pointer (some ⟨w.heap.size,0,none⟩),.pointer (some ⟨w.heap.size+1,0,none⟩),rdP (w.heap.size+1+1),f 9,f 10,f 11,f 12,f 13,f 14,f 15,f 16,f 17,f 18,f 19,f 20,f 21,f 22,f 23,f 24,f 25,f 26,f 27,f 28,f 29,f 30,f 31,f 32,f 33,f 34,f 35,f 36,f 37,f 38,f 39,f 40],defers:=[] }) (fun _ w3=>St w3 (w.heap.size+1+1) (lastF l) l∧Blk w3 w.heap.size 29 zeroN∧Blk w3 (w.heap.size+1) 48 #[.nilIface]∧Below w.heap.size w w3) ?h1 ?q1
 case h1 =>
  have htk:TokSl (w.heap.size+1+1) (((w.alloc (.cells zeroN 29)).alloc (.cells #[.nilIface] 48)).alloc (.cells #[.slice A l.length c,.int .i64 0] 67)) l (.slice A l.length c):=(HV.out.keep fun k hk=>HB3.out.block k hk).mono (by omega)
  have HTK:=Lib.hid htk
  clear htk
  by_cases hl:l=[]
  ·have hz:l.length=0:=by rw [hl];rfl
   have HE:Hid (St (((w.alloc (.cells zeroN 29)).alloc (.cells #[.nilIface] 48)).alloc (.cells #[.slice A l.length c,.int .i64 0] 67)) (w.heap.size+1+1) (lastF l) l):=Lib.hid ⟨A,c,by rw [hl];rw [hl] at HR3;exact HR3.out,HTK.out,fun w9 h9=>HLA.out w9 (HB3.out.trans (h9.mono (by omega)))⟩
   have HH:=Lib.hid (And.intro HE.out (And.intro HP3.out (And.intro HQ3.out HB3.out)))
   have hn0:¬ 0<l.length:=by omega
   clear HE HTK HR3 HP3 HQ3 HB3 hcell hl0 HV
   clear hl
   have hzz:((l.length:Int) > 0)=False:=by simp [hz]
   clear hz
   go_wp2
   exact midN_normal (by kernel_rfl) HH.out
  ·obtain ⟨n,hn⟩ : ∃ n,l.length=n+1:=⟨l.length-1,by have:=List.length_pos_iff.2 hl;omega⟩
   obtain ⟨t,ht⟩ : ∃ t,l[n]? = some t:=⟨_,List.getElem?_eq_getElem (by omega)⟩
   obtain ⟨g,o,rfl,⟨hgB,hgc⟩,-,hce⟩:=hcell n t ht
   have hlast:lastF l=t.line:=lastF_get (by rw [hn];exact ht)
   have t3:=hce 3 (by omega)
   simp only [tokC,List.getElem?_cons_zero,List.getElem?_cons_succ,← Nat.add_assoc] at t3
   have HLS:=Lib.hid hlast
   have HH:=Lib.hid (And.intro HP3.out (And.intro HQ3.out (And.intro HR3.out (And.intro HB3.out HTK.out))))
   clear HP3 HQ3 HR3 HB3 HTK hcell hce hlast hl ht
   have HH:=HH.out
   generalize (((w.alloc (.cells zeroN 29)).alloc (.cells #[.nilIface] 48)).alloc (.cells #[.slice (some ⟨g,o,none⟩) l.length c,.int .i64 0] 67))=w3 at HH ⊢
   obtain ⟨hp3,hq3,hr3,hb3,htk3⟩:=HH
   have t3':w3.cell? ⟨g,o+n*5+3,none⟩=some (.int .i64 t.line):=(World.cell?_of_block (hb3.block g hgB)).trans t3
   have r0:=hr3.cell 1
   have r1:=hr3.frozen 1
   simp only [List.getElem?_toArray,List.getElem?_cons_zero,List.getElem?_cons_succ] at r0
   have hr4:Blk (w3.setCell ⟨(w.heap.size+1+1),1,none⟩ (.int .i64 t.line)) (w.heap.size+1+1) 67 #[.slice (some ⟨g,o,none⟩) l.length c,.int .i64 (lastF l)]:=by rw [HLS.out];simpa using hr3.set_ 1 (.int .i64 t.line)
   have hb4:Below w.heap.size w (w3.setCell ⟨(w.heap.size+1+1),1,none⟩ (.int .i64 t.line)):=hb3.trans ⟨rfl,rfl,rfl,by simp [World.setCell],fun k hk=>Below.heap_setCell _ _ _ _ (by show k≠(w.heap.size+1+1);omega)⟩
   have HS4:Hid (St (w3.setCell ⟨(w.heap.size+1+1),1,none⟩ (.int .i64 t.line)) (w.heap.size+1+1) (lastF l) l):=Lib.hid ⟨some ⟨g,o,none⟩,c,hr4,htk3.keep fun k hk=>Below.heap_setCell _ _ _ _ (by show k≠(w.heap.size+1+1);omega),fun w9 h9=>HLA.out w9 (hb4.trans (h9.mono (by omega)))⟩
   have HH:=Lib.hid (And.intro HS4.out (And.intro (hp3.far (p:=⟨(w.heap.size+1+1),1,none⟩) (by show w.heap.size≠(w.heap.size+1+1);omega) (.int .i64 t.line)) (And.intro (hq3.far (p:=⟨(w.heap.size+1+1),1,none⟩) (by show w.heap.size+1≠(w.heap.size+1+1);omega) (.int .i64 t.line)) hb4)))
   have HV':=HV
   clear hp3 hq3 hr3 hb3 htk3 hr4 hb4 HS4 t3 HV HV' HLS
   have hni:(n:Int)<(n:Int)+1:=by omega
   have hnb:n≤100000:=by omega
   have hw:Go.RowKit.wrap64 (n:Int)=n:=IntWalk.wrap64_in _ ⟨by omega,by omega⟩
   rw [hn]
   clear hn
   go_wp2
   refine midN_normal (by kernel_rfl) ?_
   have h9:=HH.out
   exact h9
 case q1 =>
  rintro f1 w3 ⟨hs,hp,hq,hb⟩
  have HS3:=Lib.hid hs
  have HP3':=Lib.hid hp
  have HQ3':=Lib.hid hq
  have HB3':=Lib.hid hb
  have hz3:w.heap.size+1+1<w3.heap.size:=hs.lt
  clear hs hp hq hb HR3 HP3 HQ3 HB3 hcell HV hl0
  have hy:=HY.out
  unfold allRead at hy
  have hen:=HO.1
  rcases bind_some hy with ⟨⟨ce,ln⟩,h1,rfl⟩ | ⟨x,r,h1,h2⟩
  ·have HM:=Lib.hid h1
   clear h1 hy HY
   go_wp2_with fail
   refine (HO.2 _ _ _ HS3.out HM.out).mono ?_
   rintro e w4 ⟨rfl,ht⟩
   exact read_caught ce ln (HP3'.out.tr ht (by omega)) (HQ3'.out.tr ht (by omega)) (HB3'.out.trans ((TurnR.low ht (by omega)).mono (by omega))) rfl rfl
  have HM:=Lib.hid h1
  have HY2:=Lib.hid h2
  clear h1 hy h2 HY
  go_wp2_with fail
  refine (HO.2 _ _ _ HS3.out HM.out).mono ?_
  rintro e w4 ⟨⟨v4,rfl,hok,d5,sl5,rfl,htr⟩,hs,ht⟩
  obtain ⟨A5,c5,rfl⟩:=htr.form
  have hp4:=HP3'.out.tr ht (by omega)
  have hq4:=HQ3'.out.tr ht (by omega)
  have hb4:=HB3'.out.trans ((TurnR.low ht (by omega)).mono (by omega))
  have HOK:=Lib.hid hok
  have hb5:Below w.heap.size w (sets5 w4 w.heap.size (.int .i64 x.op) (.string x.s) (.int .i64 x.n) (.slice A5 x.l.length c5) (.int .i64 x.line)):=hb4.trans ⟨rfl,rfl,rfl,by simp [sets5,World.setCell],fun k hk=>by unfold sets5;rw [Below.heap_setCell _ _ _ _ (by show k≠w.heap.size;omega),Below.heap_setCell _ _ _ _ (by show k≠w.heap.size;omega),Below.heap_setCell _ _ _ _ (by show k≠w.heap.size;omega),Below.heap_setCell _ _ _ _ (by show k≠w.heap.size;omega),Below.heap_setCell _ _ _ _ (by show k≠w.heap.size;omega)]⟩
  have HS5:Hid (St (sets5 w4 w.heap.size (.int .i64 x.op) (.string x.s) (.int .i64 x.n) (.slice A5 x.l.length c5) (.int .i64 x.line)) (w.heap.size+1+1) (lastF l) r):=Lib.hid (hs.away hp4 (by omega) _ _ _ _ _ (fun w9 h9=>HLA.out w9 (hb5.trans (h9.mono (by omega)))))
  have HB5:=Lib.hid hb5
  have HP5:=Lib.hid (hp4.set5 (.int .i64 x.op) (.string x.s) (.int .i64 x.n) (.slice A5 x.l.length c5) (.int .i64 x.line))
  have HQ5:Hid (Blk (sets5 w4 w.heap.size (.int .i64 x.op) (.string x.s) (.int .i64 x.n) (.slice A5 x.l.length c5) (.int .i64 x.line)) (w.heap.size+1) 48 #[.nilIface]):=Lib.hid ((((((hq4).far (p:=⟨w.heap.size,0,none⟩) (by show w.heap.size+1≠w.heap.size;omega) (.int .i64 x.op)).far (p:=⟨w.heap.size,1,none⟩) (by show w.heap.size+1≠w.heap.size;omega) (.string x.s)).far (p:=⟨w.heap.size,2,none⟩) (by show w.heap.size+1≠w.heap.size;omega) (.int .i64 x.n)).far (p:=⟨w.heap.size,3,none⟩) (by show w.heap.size+1≠w.heap.size;omega) (.slice A5 x.l.length c5)).far (p:=⟨w.heap.size,4,none⟩) (by show w.heap.size+1≠w.heap.size;omega) (.int .i64 x.line))
  have HTR5:Hid (TrU (w.heap.size+1+1) (sets5 w4 w.heap.size (.int .i64 x.op) (.string x.s) (.int .i64 x.n) (.slice A5 x.l.length c5) (.int .i64 x.line)) d5 x.l (.slice A5 x.l.length c5)):=Lib.hid (((((((TrU.weaken (B':=w.heap.size+1+1) (by omega) htr)).far (p:=⟨w.heap.size,0,none⟩) (by show w.heap.size<w.heap.size+1+1;omega) (.int .i64 x.op)).far (p:=⟨w.heap.size,1,none⟩) (by show w.heap.size<w.heap.size+1+1;omega) (.string x.s)).far (p:=⟨w.heap.size,2,none⟩) (by show w.heap.size<w.heap.size+1+1;omega) (.int .i64 x.n)).far (p:=⟨w.heap.size,3,none⟩) (by show w.heap.size<w.heap.size+1+1;omega) (.slice A5 x.l.length c5)).far (p:=⟨w.heap.size,4,none⟩) (by show w.heap.size<w.heap.size+1+1;omega) (.int .i64 x.line))
  obtain ⟨⟨p0,p1,p2,p3,p4⟩,q0,q1,q2,q3,q4⟩:=hp4.five
  have HH:=Lib.hid (And.intro HS5.out (And.intro HB5.out (And.intro HP5.out (And.intro HQ5.out HTR5.out))))
  have hz4:w.heap.size+1+1<w4.heap.size:=hs.lt
  have hz5:((sets5 w4 w.heap.size (.int .i64 x.op) (.string x.s) (.int .i64 x.n) (.slice A5 x.l.length c5) (.int .i64 x.line))).heap.size=w4.heap.size:=by simp [sets5,World.setCell]
  clear hp4 hq4 hb4 hb5 htr hs ht hok HS5 HB5 HP5 HQ5 HTR5 hen
  have HZ5:=Lib.hid hz5
  clear hz5
  go_wp2_with fail
  clear p0 p1 p2 p3 p4 q0 q1 q2 q3 q4
  have HH:=HH.out
  unfold sets5 at HH
  generalize ((((w4.setCell ⟨w.heap.size,0,none⟩ (.int .i64 x.op)).setCell ⟨w.heap.size,1,none⟩ (.string x.s)).setCell ⟨w.heap.size,2,none⟩ (.int .i64 x.n)).setCell ⟨w.heap.size,3,none⟩ (.slice A5 x.l.length c5)).setCell ⟨w.heap.size,4,none⟩ (.int .i64 x.line)=w5 at HH ⊢
  obtain ⟨hs5,hb5,hp5,hq5,htr5⟩:=HH
  have f0:=field_tok0
  have HS5:=Lib.hid hs5
  have HB5:=Lib.hid hb5
  have HP5:=Lib.hid hp5
  have HQ5:=Lib.hid hq5
  have HTR5:=Lib.hid htr5
  have hz5:w.heap.size+1+1<w5.heap.size:=hs5.lt
  clear hs5 hb5 hp5 hq5 htr5 HZ5 hz4
  have hy2:=HY2.out
  refine (here_calls _ _ _ _ HS5.out).mono ?_
  rintro e w6 ⟨rfl,hb6⟩
  unfold tokV
  have ht6:=turn_below (rb:=w.heap.size+1+1) hb6
  have HS6:=Lib.hid (HS5.out.below hb6)
  have HB6:=Lib.hid (HB5.out.trans (hb6.mono HB5.out.size))
  have HP6:=Lib.hid (HP5.out.tr ht6 (by omega))
  have HQ6:=Lib.hid (HQ5.out.tr ht6 (by omega))
  have HTR6:Hid (TrU (w.heap.size+1+1) w6 d5 x.l (.slice A5 x.l.length c5)):=Lib.hid (HTR5.out.turn (fun k _ hk=>hb6.block k hk) hb6.size)
  clear hb6 ht6
  obtain ⟨kk,hkk⟩ : ∃ k,k=(hereF (lastF l) r).t.kind:=⟨_,rfl⟩
  rw [← hkk] at hy2 ⊢
  clear hkk HY2
  cases hk0:(kk==0) with
  | false =>
   have hk1:kk≠0:=by simpa using hk0
   have hk2:(kk != 0)=true:=by unfold bne;rw [hk0];rfl
   rw [if_pos hk1] at hy2
   obtain rfl:=err_eq hy2
   clear hy2 hk1
   go_wp2_with fail
   refine (stops_calls _ _ _ _ HS6.out thing).mono ?_
   rintro e w7 ⟨rfl,hb7⟩
   have ht7:=turn_below (rb:=w.heap.size+1+1) hb7
   exact read_caught _ _ (HP6.out.tr ht7 (by omega)) (HQ6.out.tr ht7 (by omega)) (HB6.out.trans (hb7.mono HB6.out.size)) rfl rfl
  | true =>
   have hk1:¬ kk≠0:=by simpa using hk0
   have hk2:(kk != 0)=false:=by unfold bne;rw [hk0];rfl
   rw [if_neg hk1] at hy2
   obtain rfl:=some_ok hy2
   clear hy2 hk1
   obtain ⟨⟨p0,p1,p2,p3,p4⟩,q0,q1,q2,q3,q4⟩:=HP6.out.five
   have r0:=HQ6.out.cell 0
   have r1:=HQ6.out.frozen 0
   simp only [List.getElem?_toArray,List.getElem?_cons_zero] at r0
   have hq6:=(((((HQ6.out).far (p:=⟨w.heap.size,0,none⟩) (by show w.heap.size+1≠w.heap.size;omega) (.int .i64 x.op)).far (p:=⟨w.heap.size,1,none⟩) (by show w.heap.size+1≠w.heap.size;omega) (.string x.s)).far (p:=⟨w.heap.size,2,none⟩) (by show w.heap.size+1≠w.heap.size;omega) (.int .i64 x.n)).far (p:=⟨w.heap.size,3,none⟩) (by show w.heap.size+1≠w.heap.size;omega) (.slice A5 x.l.length c5)).far (p:=⟨w.heap.size,4,none⟩) (by show w.heap.size+1≠w.heap.size;omega) (.int .i64 x.line)
   have k1:=(HP6.out.set5 (.int .i64 x.op) (.string x.s) (.int .i64 x.n) (.slice A5 x.l.length c5) (.int .i64 x.line)).far (p:=⟨w.heap.size+1,0,none⟩) (by show w.heap.size≠w.heap.size+1;omega) .nilIface
   have k2:=hq6.set_ 0 .nilIface
   have k3:=((((((HTR6.out).far (p:=⟨w.heap.size,0,none⟩) (by show w.heap.size<w.heap.size+1+1;omega) (.int .i64 x.op)).far (p:=⟨w.heap.size,1,none⟩) (by show w.heap.size<w.heap.size+1+1;omega) (.string x.s)).far (p:=⟨w.heap.size,2,none⟩) (by show w.heap.size<w.heap.size+1+1;omega) (.int .i64 x.n)).far (p:=⟨w.heap.size,3,none⟩) (by show w.heap.size<w.heap.size+1+1;omega) (.slice A5 x.l.length c5)).far (p:=⟨w.heap.size,4,none⟩) (by show w.heap.size<w.heap.size+1+1;omega) (.int .i64 x.line)).far (p:=⟨w.heap.size+1,0,none⟩) (by show w.heap.size+1<w.heap.size+1+1;omega) .nilIface
   have k4:Below w.heap.size w ((sets5 w6 w.heap.size (.int .i64 x.op) (.string x.s) (.int .i64 x.n) (.slice A5 x.l.length c5) (.int .i64 x.line)).setCell ⟨w.heap.size+1,0,none⟩ .nilIface):=HB6.out.trans ⟨rfl,rfl,rfl,by simp [sets5,World.setCell],fun k hk=>by unfold sets5;rw [Below.heap_setCell _ _ _ _ (by show k≠w.heap.size+1;omega),Below.heap_setCell _ _ _ _ (by show k≠w.heap.size;omega),Below.heap_setCell _ _ _ _ (by show k≠w.heap.size;omega),Below.heap_setCell _ _ _ _ (by show k≠w.heap.size;omega),Below.heap_setCell _ _ _ _ (by show k≠w.heap.size;omega),Below.heap_setCell _ _ _ _ (by show k≠w.heap.size;omega)]⟩
   unfold sets5 at k1 k4
   have HH:=Lib.hid (And.intro k1 (And.intro k2 (And.intro k3 k4)))
   clear hq6 k1 k2 k3 k4
   go_wp2
   have HH:=HH.out
   generalize (((((w6.setCell ⟨w.heap.size,0,none⟩ (.int .i64 x.op)).setCell ⟨w.heap.size,1,none⟩ (.string x.s)).setCell ⟨w.heap.size,2,none⟩ (.int .i64 x.n)).setCell ⟨w.heap.size,3,none⟩ (.slice A5 x.l.length c5)).setCell ⟨w.heap.size,4,none⟩ (.int .i64 x.line)).setCell ⟨w.heap.size+1,0,none⟩ .nilIface=w7 at HH ⊢
   obtain ⟨k1,k2,k3,k4⟩:=HH
   have k2:Blk w7 (w.heap.size+1) 48 #[.nilIface]:=by simpa using k2
   exact read_idle k1 k2 HOK.out (TrU.weaken (B':=w.heap.size) (by omega) k3) k4 rfl rfl
end
end Go.Proofs.YtjjdmiaonkailaaGreatDoor
