/- Walks and plain laws, packed: RdB, Join1, RdC. -/
import Derived.Test.YtjjdmiaonkailaaGreatDoorK15
import Derived.WalkLawsBesides
import Derived.WalkSmall
import Derived.Deep.RegionHeld3
import Derived.WalkMore
import Derived.Deep.RegionLaw
namespace Go.Proofs.YtjjdmiaonkailaaGreatDoor
section
open Go.RowKit Go.Sort
theorem at_here (last:Nat) (ss:List (List UInt8)) (l:List Tl):atF ss l=(((hereF last l).t.kind==5||(hereF last l).t.kind==2)&&ss.contains (hereF last l).t.s):=by
 cases l with
 | nil=>rfl
 | cons t l=>rfl
structure Txs (w:World) (bk:Nat) (xs:List ByteArray):Prop where
 lt:bk<w.heap.size
 cell : ∀ j x,xs[j]? = some x→w.cell? ⟨bk,j,none⟩=some (.string x)
 len:xs.length≤1000
theorem Txs.keep {w w':World} {bk:Nat} {xs:List ByteArray} (h:Txs w bk xs) (hk:w'.heap[bk]? = w.heap[bk]?) (hs:w.heap.size≤w'.heap.size):Txs w' bk xs :=
 ⟨Nat.lt_of_lt_of_le h.lt hs,fun j x hx=>(World.cell?_of_block hk).trans (h.cell j x hx),h.len⟩
theorem Txs.below {w w':World} {bk:Nat} {xs:List ByteArray} (h:Txs w bk xs) (hb:Below w.heap.size w w'):Txs w' bk xs:=h.keep (hb.block _ h.lt) hb.size
theorem Txs.new (w:World) (xs:List ByteArray) (t:TypeId) (h:xs.length≤1000):Txs (w.alloc (.cells ((xs.map Value.string).toArray) t)) w.heap.size xs:=by
 refine ⟨by simp,fun j x hx => ?_,h⟩
 rw [cell_of_row _ _ _ _ _ (0,0) (heap_alloc_new _ _)]
 simp [hx]
def bl (xs:List ByteArray):List (List UInt8):=xs.map fun x=>x.data.toList
theorem contains_bl (xs:List ByteArray) (s:List UInt8):Lib.containsS xs ⟨s.toArray⟩=(bl xs).contains s:=by
 rw [Bool.eq_iff_iff,Lib.containsS_iff]
 unfold bl
 simp only [List.contains_iff_mem,List.mem_map]
 constructor
 ·intro h
  exact ⟨_,h,rfl⟩
 ·rintro ⟨x,hx,rfl⟩
  cases x
  simpa using hx
set_option maxRecDepth 100000 in
set_option maxHeartbeats 1000000 in
theorem isAt_calls (w:World) (rb last:Nat) (l:List Tl) (h:St w rb last l) (bk:Nat) (xs:List ByteArray) (hx:Txs w bk xs) :
  Calls Tryz.prog 64 #[.pointer (some ⟨rb,0,none⟩),.slice (some ⟨bk,0,none⟩) xs.length xs.length] w fun e w'=>e = .returned (.bool (atF (bl xs) l))∧Below w.heap.size w w':=by
 have HS:=Lib.hid h
 have HX:=Lib.hid hx
 have HA:=Lib.hid (at_here last (bl xs) l)
 clear h hx
 go_enter Tryz.func64,Tryz.ntmps64
 go_wp2_with fail
 refine (here_calls _ rb last l HS.out).mono ?_
 rintro e w2 ⟨rfl,hb2⟩
 have HB2:=Lib.hid hb2
 clear hb2
 unfold tokV
 generalize hereF last l=t at HA ⊢
 have HC:=Lib.hid (fun (w9:World) (hb9:Below w.heap.size w w9)=>Tryz.slices_Contains_string bk 0 xs.length xs.length xs ⟨t.t.s.toArray⟩ w9 (Nat.le_refl _) (by have:=HX.out.len;omega) (fun j hj=>by
  rw [Nat.zero_add]
  have h1:xs[j]? = some xs[j]:=List.getElem?_eq_getElem hj
  rw [(HX.out.below hb9).cell j _ h1]
  simp [List.getD,hj]))
 rw [List.take_length,contains_bl] at HC
 generalize (bl xs).contains t.t.s=bb at HA HC
 cases h5:(t.t.kind==5) with
 | true =>
  rw [h5] at HA
  go_wp2_with (go_at_call 80;refine (HC.out _ (HB2.out.alloc HB2.out.size _)).mono ?_;rintro e w3 ⟨rfl,rfl⟩)
  go_ret
  exact ⟨by rw [HA.out];rfl,HB2.out.alloc HB2.out.size _⟩
 | false =>
  cases h2:(t.t.kind==2) with
  | true =>
   rw [h5,h2] at HA
   go_wp2_with (go_at_call 80;refine (HC.out _ (HB2.out.alloc HB2.out.size _)).mono ?_;rintro e w3 ⟨rfl,rfl⟩)
   go_ret
   exact ⟨by rw [HA.out];rfl,HB2.out.alloc HB2.out.size _⟩
  | false =>
   rw [h5,h2] at HA
   go_wp2
   go_ret
   exact ⟨by rw [HA.out];rfl,HB2.out.alloc HB2.out.size _⟩
set_option maxRecDepth 100000 in
set_option maxHeartbeats 1000000 in
theorem takes_calls (w:World) (rb last:Nat) (l:List Tl) (h:St w rb last l) (bk:Nat) (xs:List ByteArray) (hx:Txs w bk xs) :
  Calls Tryz.prog 51 #[.pointer (some ⟨rb,0,none⟩),.slice (some ⟨bk,0,none⟩) xs.length xs.length] w fun e w'=>e = .returned (.bool (atF (bl xs) l))∧St w' rb last (if atF (bl xs) l then l.tail else l)∧TurnR rb w w':=by
 have HS:=Lib.hid h
 have HA:=Lib.hid (isAt_calls w rb last l h bk xs hx)
 clear h hx
 cases ha:atF (bl xs) l with
 | false =>
  rw [ha] at HA
  go_enter Tryz.func51,Tryz.ntmps51
  go_wp2_with (go_at_call 64;refine HA.out.mono ?_;rintro e w2 ⟨rfl,hb2⟩;have HB2:=Lib.hid hb2;clear hb2)
  go_ret
  exact ⟨rfl,HS.out.below HB2.out,turn_below HB2.out⟩
 | true =>
  rw [ha] at HA
  go_enter Tryz.func51,Tryz.ntmps51
  go_wp2_with fail
  refine HA.out.mono ?_
  rintro e w2 ⟨rfl,hb2⟩
  have HB2:=Lib.hid hb2
  clear hb2
  go_wp2_with fail
  refine (skip_calls w2 rb last l (HS.out.below HB2.out)).mono ?_
  rintro e w3 ⟨rfl,hs3,ht3⟩
  have HS3:=Lib.hid hs3
  have HT3:=Lib.hid ((turn_below HB2.out).trans ht3)
  clear hs3 ht3
  go_wp2
  go_ret
  exact ⟨rfl,HS3.out,HT3.out⟩
theorem field_tok0 (a b c d e:Value) (w:World):(Instr.field 37 (.agg #[a,b,c,d,e]) 0).run Tryz.prog w = .ok a w:=by kernel_rfl
theorem field_tok1 (a b c d e:Value) (w:World):(Instr.field 37 (.agg #[a,b,c,d,e]) 1).run Tryz.prog w = .ok b w:=by kernel_rfl
theorem field_tok3 (a b c d e:Value) (w:World):(Instr.field 37 (.agg #[a,b,c,d,e]) 3).run Tryz.prog w = .ok d w:=by kernel_rfl
theorem field_tok4 (a b c d e:Value) (w:World):(Instr.field 37 (.agg #[a,b,c,d,e]) 4).run Tryz.prog w = .ok e w:=by kernel_rfl
def pan (c ln:Int):List PanicEntry:=[{ v := .iface 80 (.agg #[.int .i64 c,.int .i64 ln]),recovered:=false }]
set_option maxRecDepth 100000 in
set_option maxHeartbeats 1000000 in
theorem fails_calls (w:World) (rb last:Nat) (l:List Tl) (h:St w rb last l) (c:Int) :
  Calls Tryz.prog 79 #[.pointer (some ⟨rb,0,none⟩),.int .i64 c] w fun e w'=>e = .panicked (pan c (hereF last l).line)∧Below w.heap.size w w':=by
 have HA:=Lib.hid (here_calls w rb last l h)
 clear h
 go_enter Tryz.func79,Tryz.ntmps79
 go_wp2_with fail
 refine HA.out.mono ?_
 rintro e w2 ⟨rfl,hb2⟩
 have HB2:=Lib.hid hb2
 clear hb2
 unfold tokV
 have f3:=field_tok3
 go_wp2
 exact ⟨rfl,rfl,HB2.out⟩
def othersT:ByteArray := "case debugger default delete do finally instanceof switch typeof void".toUTF8
def othersX:List ByteArray:=othersL.map fun l=>⟨l.toArray⟩
theorem others_fields:Lib.fields othersT.data.toList=othersL:=by decide +kernel
theorem others_ascii : ∀ (j:Nat) b,othersT.data.toList[j]? = some b→b.toNat<128:=by
 intro j b h
 have hm:=List.mem_of_getElem? h
 have : ∀ x ∈ othersT.data.toList,x.toNat<128:=by decide +kernel
 exact this b hm
theorem others_bl:bl othersX=othersL:=by decide +kernel
theorem others_calls (w:World) (hl:Laid w):Calls Tryz.prog 73 #[.string othersT] w fun e w'=>e = .returned (.slice (some ⟨w.heap.size,0,none⟩) 10 10)∧Below w.heap.size w w'∧Txs w' w.heap.size othersX:=by
 have h:=Tryz.strings_Fields othersT w (by decide +kernel) others_ascii hl.sp
 rw [others_fields] at h
 refine h.mono ?_
 rintro e w' ⟨rfl,rfl⟩
 refine ⟨rfl,(Below.refl _ _).alloc (Nat.le_refl _) _,?_⟩
 have:=Txs.new w othersX 9 (by decide)
 have e2:(othersX.map Value.string).toArray=(othersL.map fun l=>Value.string ⟨l.toArray⟩).toArray:=by unfold othersX;rw [List.map_map];rfl
 rw [e2] at this
 exact this
theorem calls_argF {P:Program} {f:FuncId} {a b:Value} {w:World} {Q:Ending→World→Prop} (h:a=b) (hc:Calls P f #[b] w Q):Calls P f #[a] w Q:=by rwa [h]
theorem stopE_eq (last:Nat) (thing:Bool) (l:List Tl):stopE last thing l=if (hereF last l).t.kind==2&&(hereF last l).t.s==[119,105,116,104] then 42
 else if (hereF last l).t.kind==2&&othersL.contains (hereF last l).t.s then 47
 else if atF [[47]] l then (if thing then 44 else 47)
 else 40:=rfl
set_option maxRecDepth 100000 in
set_option maxHeartbeats 2000000 in
theorem stops_calls (w:World) (rb last:Nat) (l:List Tl) (h:St w rb last l) (b:Bool) :
  Calls Tryz.prog 49 #[.pointer (some ⟨rb,0,none⟩),.bool b] w fun e w'=>e = .panicked (pan (stopE last b l) (hereF last l).line)∧Below w.heap.size w w':=by
 have HS:=Lib.hid h
 have HA:=Lib.hid (here_calls w rb last l h)
 have HE:=Lib.hid (stopE_eq last b l)
 have HF:=Lib.hid (fun (w9:World) (hb9:Below w.heap.size w w9) (c:Int)=>(fails_calls w9 rb last l (HS.out.below hb9) c).mono fun e w' (hq:_∧_)=>(⟨hq.1,hb9.trans (hq.2.mono hb9.size)⟩:e=_∧Below w.heap.size w w'))
 have HI:=Lib.hid (fun (w9:World) (hb9:Below w.heap.size w w9)=>(isAt_calls (w9.alloc (.cells #[.string ⟨#[47]⟩] 9)) rb last l ((HS.out.below hb9).alloc _) w9.heap.size [⟨#[47]⟩] (Txs.new w9 [⟨#[47]⟩] _ (by decide))).mono fun e w' (hq:_∧_)=>(⟨hq.1,(hb9.alloc hb9.size _).trans (hq.2.mono (by have:=hb9.size;simp;omega))⟩:e=_∧Below w.heap.size w w'))
 rw [show bl [(⟨#[47]⟩:ByteArray)]=[[47]] from rfl] at HI
 have HO:=Lib.hid (fun (w9:World) (hb9:Below w.heap.size w w9)=>(others_calls w9 (HS.out.below hb9).laid).mono fun e w' (hq:_∧_∧_)=>(⟨w9.heap.size,hq.1,hb9.trans (hq.2.1.mono hb9.size),hq.2.2⟩ : ∃ bk,e = .returned (.slice (some ⟨bk,0,none⟩) 10 10)∧Below w.heap.size w w'∧Txs w' bk othersX))
 have hbw:((⟨(hereF last l).t.s.toArray⟩:ByteArray).toList==[119,105,116,104])=((hereF last l).t.s==[119,105,116,104]):=by rw [ByteArray.toList_eq]
 clear h
 go_enter Tryz.func49,Tryz.ntmps49
 go_wp2_with fail
 refine HA.out.mono ?_
 rintro e w2 ⟨rfl,hb2⟩
 unfold tokV
 have hb3:Below w.heap.size w (w2.alloc (.cells #[.int .i64 (hereF last l).t.kind,.string ⟨(hereF last l).t.s.toArray⟩,.int .i64 (hereF last l).t.n,.int .i64 (hereF last l).line,.bool (hereF last l).nl] 37)):=hb2.alloc hb2.size _
 have HB3:=Lib.hid hb3
 have hb3d:Below w.heap.size w (w2.alloc (.cells #[.int .i64 (hereF last l).t.kind,.string ⟨(hereF last l).t.s.toArray⟩,.int .i64 (hereF last l).t.n,.int .i64 (hereF last l).line,.bool (hereF last l).nl] 37)).drew:=hb3.drew
 cases h2:((hereF last l).t.kind==2) with
 | false =>
  rw [h2] at HE
  clear hbw
  have hd2:decide ((hereF last l).t.kind=2)=false:=by rw [decide_eq_false_iff_not];intro e;rw [e] at h2;exact absurd h2 (by decide)
  cases ha:atF [[47]] l with
  | true =>
   rw [ha] at HE HI
   cases b with
   | true =>
    go_wp2
    go_region
    generalize (w2.alloc (.cells #[.int .i64 (hereF last l).t.kind,.string ⟨(hereF last l).t.s.toArray⟩,.int .i64 (hereF last l).t.n,.int .i64 (hereF last l).line,.bool (hereF last l).nl] 37)).drew=w3 at hb3d ⊢
    go_wp2_with fail
    refine (HI.out w3 hb3d).mono ?_
    rintro e w4 ⟨rfl,hb4⟩
    go_wp2_with fail
    refine (HF.out w4 hb4 _).mono ?_
    rintro e w9 ⟨rfl,hb9⟩
    exact ⟨rfl,by rw [HE.out];rfl,hb9⟩
   | false =>
    go_wp2
    go_region
    generalize (w2.alloc (.cells #[.int .i64 (hereF last l).t.kind,.string ⟨(hereF last l).t.s.toArray⟩,.int .i64 (hereF last l).t.n,.int .i64 (hereF last l).line,.bool (hereF last l).nl] 37)).drew=w3 at hb3d ⊢
    go_wp2_with fail
    refine (HI.out w3 hb3d).mono ?_
    rintro e w4 ⟨rfl,hb4⟩
    go_wp2_with fail
    refine (HI.out w4 hb4).mono ?_
    rintro e w5 ⟨rfl,hb5⟩
    go_wp2_with fail
    refine (HF.out w5 hb5 _).mono ?_
    rintro e w9 ⟨rfl,hb9⟩
    exact ⟨rfl,by rw [HE.out];rfl,hb9⟩
  | false =>
   rw [ha] at HE HI
   go_wp2
   go_region
   generalize (w2.alloc (.cells #[.int .i64 (hereF last l).t.kind,.string ⟨(hereF last l).t.s.toArray⟩,.int .i64 (hereF last l).t.n,.int .i64 (hereF last l).line,.bool (hereF last l).nl] 37)).drew=w3 at hb3d ⊢
   go_wp2_with fail
   refine (HI.out w3 hb3d).mono ?_
   rintro e w4 ⟨rfl,hb4⟩
   go_wp2_with fail
   refine (HI.out w4 hb4).mono ?_
   rintro e w5 ⟨rfl,hb5⟩
   go_wp2_with fail
   refine (HF.out w5 hb5 _).mono ?_
   rintro e w9 ⟨rfl,hb9⟩
   exact ⟨rfl,by rw [HE.out];rfl,hb9⟩
 | true =>
  rw [h2] at HE
  have hd2:decide ((hereF last l).t.kind=2)=true:=by simpa using h2
  cases hw:((hereF last l).t.s==[119,105,116,104]) with
  | true =>
   rw [hw] at HE hbw
   go_wp2_with fail
   refine (HF.out _ hb3 _).mono ?_
   rintro e w9 ⟨rfl,hb9⟩
   exact ⟨rfl,by rw [HE.out];rfl,hb9⟩
  | false =>
   rw [hw] at HE hbw
   have HCt:=Lib.hid (fun (w9:World) (bk:Nat) (hx:Txs w9 bk othersX)=>Tryz.slices_Contains_string bk 0 10 10 othersX ⟨(hereF last l).t.s.toArray⟩ w9 (by decide) (by decide) (fun j hj=>by
    rw [Nat.zero_add]
    have h1:othersX[j]? = some othersX[j]:=List.getElem?_eq_getElem hj
    rw [hx.cell j _ h1]
    simp [List.getD,hj]))
   rw [show othersX.take 10=othersX from rfl,contains_bl,others_bl] at HCt
   have SC:Hid (∀ (w9:World),Below (w2.alloc (.cells #[.int .i64 (hereF last l).t.kind,.string ⟨(hereF last l).t.s.toArray⟩,.int .i64 (hereF last l).t.n,.int .i64 (hereF last l).line,.bool (hereF last l).nl] 37)).heap.size (w2.alloc (.cells #[.int .i64 (hereF last l).t.kind,.string ⟨(hereF last l).t.s.toArray⟩,.int .i64 (hereF last l).t.n,.int .i64 (hereF last l).line,.bool (hereF last l).nl] 37)) w9→(w9.cell? ⟨w2.heap.size,0,none⟩=some (.int .i64 (hereF last l).t.kind)∧w9.cell? ⟨w2.heap.size,1,none⟩=some (.string ⟨(hereF last l).t.s.toArray⟩))):=Lib.hid fun w9 hb9=>by
    have hk:=(Blk.new w2 37 #[.int .i64 (hereF last l).t.kind,.string ⟨(hereF last l).t.s.toArray⟩,.int .i64 (hereF last l).t.n,.int .i64 (hereF last l).line,.bool (hereF last l).nl]).keep (hb9.block _ (by simp))
    exact ⟨hk.cell 0,hk.cell 1⟩
   have hs3:=SC.out _ (Below.refl _ _)
   generalize othersL.contains (hereF last l).t.s=bo at HE HCt
   have HO3:=Lib.hid (fun (w8:World) (hb8:Below w.heap.size w w8) (w9:World) (hb9:Below w8.heap.size w8 w9)=>(others_calls w9 (HS.out.below (hb8.trans (hb9.mono hb8.size))).laid).mono fun e w' (hq:_∧_∧_)=>(⟨w9.heap.size,hq.1,hb9.trans (hq.2.1.mono hb9.size),hq.2.2⟩ : ∃ bk,e = .returned (.slice (some ⟨bk,0,none⟩) 10 10)∧Below w8.heap.size w8 w'∧Txs w' bk othersX))
   have HC3:=Lib.hid (fun (w8:World) (hb8:Below w.heap.size w w8) (w9:World) (bk:Nat) (hb9:Below w8.heap.size w8 w9) (hx:Txs w9 bk othersX)=>(HCt.out w9 bk hx).mono fun e w' (hq:_∧w'=w9)=>(⟨hq.1,hq.2 ▸ hb9⟩:e=Ending.returned (.bool bo)∧Below w8.heap.size w8 w'))
   clear HO HCt HB3 hb3d
   go_wp2
   generalize w2.alloc (.cells #[.int .i64 (hereF last l).t.kind,.string ⟨(hereF last l).t.s.toArray⟩,.int .i64 (hereF last l).t.n,.int .i64 (hereF last l).line,.bool (hereF last l).nl] 37)=w3 at hb3 SC hs3 ⊢
   have HO3:=Lib.hid (HO3.out w3 hb3)
   have HC3:=Lib.hid (HC3.out w3 hb3)
   obtain ⟨a0,a1⟩:=hs3
   have hd0:Below w3.heap.size w3 w3.drew:=(Below.refl _ _).drew
   go_region_held3 (fun w9=>(w9.cell? ⟨w2.heap.size,0,none⟩=some (.int .i64 (hereF last l).t.kind)∧w9.cell? ⟨w2.heap.size,1,none⟩=some (.string ⟨(hereF last l).t.s.toArray⟩))) (first
    | exact SC.out _ (by assumption)
    | go_keep) (first
    | (go_at_call 80;refine (HC3.out _ _ (by assumption) (by assumption)).mono ?_;rintro e wz ⟨rfl,hbz⟩)
    | (go_at_call 73;refine calls_argF (b := .string othersT) (by kernel_rfl) ?_;refine (HO3.out _ (by assumption)).mono ?_;rintro e wf ⟨bk,rfl,hbf,hxf⟩))
   all_goals
    have hb4:Below w.heap.size w wz:=hb3.trans (hbz.mono hb3.size)
    clear hd0 a0 a1 SC HO3 HC3
    cases bo with
    | true =>
     go_wp2_with fail
     refine (HF.out wz hb4 _).mono ?_
     rintro e w9 ⟨rfl,hb9⟩
     exact ⟨rfl,by rw [HE.out];rfl,hb9⟩
    | false =>
     cases ha:atF [[47]] l with
     | true =>
      rw [ha] at HE HI
      cases b with
      | true =>
       go_wp2_with fail
       refine (HI.out wz hb4).mono ?_
       rintro e w5 ⟨rfl,hb5⟩
       go_wp2_with fail
       refine (HF.out w5 hb5 _).mono ?_
       rintro e w9 ⟨rfl,hb9⟩
       exact ⟨rfl,by rw [HE.out];rfl,hb9⟩
      | false =>
       go_wp2_with fail
       refine (HI.out wz hb4).mono ?_
       rintro e w5 ⟨rfl,hb5⟩
       go_wp2_with fail
       refine (HI.out w5 hb5).mono ?_
       rintro e w6 ⟨rfl,hb6⟩
       go_wp2_with fail
       refine (HF.out w6 hb6 _).mono ?_
       rintro e w9 ⟨rfl,hb9⟩
       exact ⟨rfl,by rw [HE.out];rfl,hb9⟩
     | false =>
      rw [ha] at HE HI
      go_wp2_with fail
      refine (HI.out wz hb4).mono ?_
      rintro e w5 ⟨rfl,hb5⟩
      go_wp2_with fail
      refine (HI.out w5 hb5).mono ?_
      rintro e w6 ⟨rfl,hb6⟩
      go_wp2_with fail
      refine (HF.out w6 hb6 _).mono ?_
      rintro e w9 ⟨rfl,hb9⟩
      exact ⟨rfl,by rw [HE.out];rfl,hb9⟩
end
section
open Go.RowKit Go.Sort
def faultV (c ln:Int):Value := .iface 80 (.agg #[.int .i64 c,.int .i64 ln])
theorem neq_fault (c ln:Int) (w:World):Sem.run Tryz.prog (binOp .neq 48 (.iface 80 (.agg #[.int .i64 c,.int .i64 ln])) .nilIface) w = .ok (.bool true) w:=by kernel_rfl
theorem make_errs (w:World):Sem.run Tryz.prog (Instr.makeSlice 114 (.int .i64 0) (.int .i64 1)) w = .ok (.slice (some ⟨w.heap.size,0,none⟩) 0 1) (w.alloc (.cells #[.nilIface] 48)):=by kernel_rfl
set_option maxRecDepth 100000 in
set_option maxHeartbeats 4000000 in
theorem join_calls (c ln:Int) (b:Nat) (w:World) (h0:w.cell? ⟨b,0,none⟩=some (faultV c ln)) (hb:b<w.heap.size) :
  Calls Tryz.prog 48 #[.slice (some ⟨b,0,none⟩) 1 1] w fun e w' => ∃ j g,e = .returned (.iface 115 (.pointer (some ⟨j,0,none⟩)))∧w.heap.size≤j∧w.heap.size≤g∧w'.cell? ⟨j,0,none⟩=some (.slice (some ⟨g,0,none⟩) 1 1)∧w'.cell? ⟨g,0,none⟩=some (faultV c ln)∧g<w'.heap.size∧j<w'.heap.size∧Below w.heap.size w w':=by
 have hnf:=neq_fault c ln
 unfold faultV at h0 ⊢
 have hmk:=make_errs
 go_enter Tryz.func48,Tryz.ntmps48
 go_wp2
 refine wp_loop_rounds 2 ?_
 rw [rounds_succ]
 go_wp2
 rw [rounds_succ]
 go_wp2
 refine wp_loop_rounds 2 ?_
 rw [rounds_succ]
 go_wp2
 rw [rounds_succ]
 go_wp2
 go_ret
 refine ⟨w.heap.size+1,w.heap.size,rfl,by omega,by omega,?_,?_,?_,?_,?_⟩
 ·have h:=((Blk.new (w.alloc (.cells #[.iface 80 (.agg #[.int .i64 c,.int .i64 ln])] 48)) 117 #[.slice (some ⟨w.heap.size,0,none⟩) 1 1]).alloc (.cells #[.iface 80 (.agg #[.int .i64 c,.int .i64 ln])] 48)).cell 0
  rw [World.size_alloc] at h
  exact h
 ·exact (((Blk.new w 48 #[.iface 80 (.agg #[.int .i64 c,.int .i64 ln])]).alloc (.cells #[.slice (some ⟨w.heap.size,0,none⟩) 1 1] 117)).alloc (.cells #[.iface 80 (.agg #[.int .i64 c,.int .i64 ln])] 48)).cell 0
 ·simp
  omega
 ·simp
 ·exact (((Below.refl _ _).alloc (Nat.le_refl _) _).alloc (by simp) _).alloc (by simp;omega) _
end
section
open Go.RowKit Go.Sort
theorem bind_some {α β : Type} {x:Rd α} {g : α → List Tl→Rd β} {y:Except (Int × Int) (β × List Tl)} (h:x.bind g=some y):(∃ e,x=some (.error e)∧y = .error e) ∨ ∃ a r,x=some (.ok (a,r))∧g a r=some y:=by
 match x,h with
 | some (.error e),h =>
  have h:some (Except.error e)=some y:=h
  injection h with h
  exact .inl ⟨e,rfl,h.symm⟩
 | some (.ok (a,r)),h=>exact .inr ⟨a,r,rfl,h⟩
def PostS {α : Type} (rb last:Nat) (w:World) (V:World → α → Value→Prop) (y:Except (Int × Int) (α × List Tl)) (e:Ending) (w':World):Prop :=
 match y with
 | .ok (a,r)=>(∃ v,e = .returned v∧V w' a v)∧St w' rb last r∧TurnR rb w w'
 | .error (c,ln)=>e = .panicked (pan c ln)∧TurnR rb w w'
theorem PostS.err {α : Type} {rb last:Nat} {w w':World} {V:World → α → Value→Prop} {y:Except (Int × Int) (α × List Tl)} {c ln:Int} (h:y = .error (c,ln)) (ht:TurnR rb w w'):PostS rb last w V y (.panicked (pan c ln)) w':=by
 subst h
 exact ⟨rfl,ht⟩
theorem PostS.ok {α : Type} {rb last:Nat} {w w':World} {V:World → α → Value→Prop} {y:Except (Int × Int) (α × List Tl)} {a : α} {r:List Tl} {v:Value} (h:y = .ok (a,r)) (hv:V w' a v) (hs:St w' rb last r) (ht:TurnR rb w w'):PostS rb last w V y (.returned v) w':=by
 subst h
 exact ⟨⟨v,rfl,hv⟩,hs,ht⟩
def anyV:World→Unit→Value→Prop:=fun _ _ _=>True
def mustsF (last:Nat):List (List UInt8)→List Tl→Rd Unit
 | [],l => .ok () l
 | s::ss,l=>(mustF last s l).bind fun _ r=>mustsF last ss r
theorem musts_one (last:Nat) (s:List UInt8) (l:List Tl):mustsF last [s] l=mustF last s l:=by
 show (mustF last s l).bind _=_
 match mustF last s l with
 | none=>rfl
 | some (.error e)=>rfl
 | some (.ok ((),r))=>rfl
set_option maxRecDepth 100000 in
set_option maxHeartbeats 2000000 in
theorem must_calls (w:World) (rb last:Nat) (l:List Tl) (h:St w rb last l) (bk:Nat) (xs:List ByteArray) (hx:Txs w bk xs) (hbk:rb<bk) (y:Except (Int × Int) (Unit × List Tl)) (hy:mustsF last (bl xs) l=some y) :
  Calls Tryz.prog 82 #[.pointer (some ⟨rb,0,none⟩),.slice (some ⟨bk,0,none⟩) xs.length xs.length] w (PostS rb last w anyV y):=by
 have HS:=Lib.hid h
 have HX:=Lib.hid hx
 have HY:=Lib.hid hy
 have hlen:=hx.len
 have hbl:=hx.lt
 clear h hx hy
 go_enter Tryz.func82,Tryz.ntmps82
 go_wp2
 go_loopw [5,8] (fun _ n wr => ∃ k l',k≤xs.length∧n = .int .i64 (k:Nat)∧St wr rb last l'∧TurnR rb w wr∧mustsF last ((bl xs).drop k) l'=some y) (fun _ n _=>xs.length-(intOf n).toNat)
 case atStart=>exact ⟨0,l,by omega,rfl,HS.out,Turn.refl _ _,HY.out⟩
 case round =>
  obtain ⟨k,l',hkl,rfl,hst,htn,hy⟩:=hrel
  have HS':=Lib.hid hst
  have HT':=Lib.hid htn
  have HX':=Lib.hid (HX.out.keep (htn.block _ hbl (by omega)) htn.size)
  clear hst htn
  by_cases hlt:k<xs.length
  ·have hxk:xs[k]? = some xs[k]:=List.getElem?_eq_getElem hlt
   generalize xs[k]=x at hxk
   have hd:(bl xs).drop k=x.data.toList::(bl xs).drop (k+1):=by
    have h1:(bl xs)[k]? = some x.data.toList:=by unfold bl;rw [List.getElem?_map,hxk];rfl
    obtain ⟨hlt2,h2⟩:=List.getElem?_eq_some_iff.1 h1
    rw [List.drop_eq_getElem_cons hlt2,h2]
   rw [hd] at hy
   have hcell:=HX'.out.cell k x hxk
   have z1:(k:Int)<(xs.length:Int):=by omega
   have HTK:=Lib.hid (takes_calls (wr.alloc (.cells #[.string x] 9)) rb last l' (HS'.out.alloc _) wr.heap.size [x] (Txs.new wr [x] _ (by simp)))
   rw [show bl [x]=[x.data.toList] from rfl] at HTK
   cases ha:atF [x.data.toList] l' with
   | true =>
    rw [ha] at HTK
    have hy2:mustsF last ((bl xs).drop (k+1)) l'.tail=some y:=by
     have:mustF last x.data.toList l' = .ok () l'.tail:=by unfold mustF;rw [if_pos ha]
     have h3:(mustF last x.data.toList l').bind (fun _ r=>mustsF last ((bl xs).drop (k+1)) r)=some y:=hy
     rw [this] at h3
     exact h3
    have HY2:=Lib.hid hy2
    clear hd hy hy2 hxk ha
    go_wp2_with fail
    refine HTK.out.mono ?_
    rintro e w3 ⟨rfl,hs3,ht3⟩
    have HS3:Hid (St w3 rb last l'.tail):=Lib.hid (by simpa using hs3)
    have HT3:=Lib.hid (HT'.out.trans ((turn_below ((Below.refl _ _).alloc (Nat.le_refl _) _)).trans ht3))
    clear hs3 ht3 hcell
    go_wp2
    go_roundw
    case rel=>exact ⟨k+1,l'.tail,by omega,by go_num,HS3.out,HT3.out,HY2.out⟩
    case measure=>simp [intOf];omega
   | false =>
    rw [ha] at HTK
    have hy2:y = .error (stopE last false l',((hereF last l').line:Int)):=by
     have:mustF last x.data.toList l'=stopF last false l':=by unfold mustF;rw [if_neg (by rw [ha];decide)]
     have h3:(mustF last x.data.toList l').bind (fun _ r=>mustsF last ((bl xs).drop (k+1)) r)=some y:=hy
     rw [this] at h3
     have h3:some (Except.error (stopE last false l',((hereF last l').line:Int)))=some y:=h3
     injection h3 with h3
     exact h3.symm
    have HY2:=Lib.hid hy2
    clear hd hy hy2 hxk ha
    go_wp2_with fail
    refine HTK.out.mono ?_
    rintro e w3 ⟨rfl,hs3,ht3⟩
    have HS3:Hid (St w3 rb last l'):=Lib.hid (by simpa using hs3)
    have HT3:=Lib.hid (HT'.out.trans ((turn_below ((Below.refl _ _).alloc (Nat.le_refl _) _)).trans ht3))
    clear hs3 ht3 hcell
    go_wp2_with fail
    refine (stops_calls w3 rb last l' HS3.out false).mono ?_
    rintro e w4 ⟨rfl,hb4⟩
    exact ⟨rfl,PostS.err HY2.out (HT3.out.trans (turn_below hb4))⟩
  ·obtain rfl:k=xs.length:=by omega
   have hdd:decide ((xs.length:Int)<(xs.length:Int))=false:=by simp
   rw [List.drop_eq_nil_of_le (by unfold bl;simp)] at hy
   have hy2:y = .ok ((),l'):=by
    have h3:some (Except.ok ((),l'))=some y:=hy
    injection h3 with h3
    exact h3.symm
   have HY2:=Lib.hid hy2
   clear hy hy2
   go_wp2
   go_end0
   exact PostS.ok HY2.out trivial HS'.out HT'.out
def strV:World→List UInt8→Value→Prop:=fun _ s v=>v = .string ⟨s.toArray⟩
set_option maxRecDepth 100000 in
set_option maxHeartbeats 2000000 in
theorem name_calls (w:World) (rb last:Nat) (l:List Tl) (h:St w rb last l) (y:Except (Int × Int) (List UInt8 × List Tl)) (hy:nameF last l=some y) :
  Calls Tryz.prog 158 #[.pointer (some ⟨rb,0,none⟩)] w (PostS rb last w strV y):=by
 have HS:=Lib.hid h
 have HA:=Lib.hid (here_calls w rb last l h)
 have f0:=field_tok0
 have f1:=field_tok1
 unfold nameF at hy
 cases hk:((hereF last l).t.kind==1) with
 | true =>
  have hk':(hereF last l).t.kind=1:=by simpa using hk
  rw [if_pos hk'] at hy
  have HY:Hid (y = .ok ((hereF last l).t.s,l.tail)):=by injection hy with hy;exact Lib.hid hy.symm
  clear h hy hk'
  go_enter Tryz.func158,Tryz.ntmps158
  go_wp2_with fail
  refine HA.out.mono ?_
  rintro e w2 ⟨rfl,hb2⟩
  have HB2:=Lib.hid hb2
  clear hb2
  unfold tokV
  go_wp2_with fail
  refine (skip_calls w2 rb last l (HS.out.below HB2.out)).mono ?_
  rintro e w3 ⟨rfl,hs3,ht3⟩
  have HS3:=Lib.hid hs3
  have HT3:=Lib.hid ((turn_below HB2.out).trans ht3)
  clear hs3 ht3
  unfold tokV
  go_wp2
  go_ret
  exact PostS.ok HY.out rfl HS3.out HT3.out
 | false =>
  have hk':¬ (hereF last l).t.kind=1:=by simpa using hk
  rw [if_neg hk'] at hy
  have HY:Hid (y = .error (stopE last false l,((hereF last l).line:Int))):=by
   have h3:some (Except.error (stopE last false l,((hereF last l).line:Int)))=some y:=hy
   injection h3 with h3
   exact Lib.hid h3.symm
  clear h hy hk'
  go_enter Tryz.func158,Tryz.ntmps158
  go_wp2_with fail
  refine HA.out.mono ?_
  rintro e w2 ⟨rfl,hb2⟩
  have HB2:=Lib.hid hb2
  clear hb2
  unfold tokV
  go_wp2_with fail
  refine (stops_calls w2 rb last l (HS.out.below HB2.out) false).mono ?_
  rintro e w4 ⟨rfl,hb4⟩
  exact ⟨rfl,PostS.err HY.out (turn_below (HB2.out.trans (hb4.mono HB2.out.size)))⟩
section
variable {w:World} {rb last:Nat} {l:List Tl}
theorem alloc_turn (w:World) (rb:Nat) (o:Obj):TurnR rb w (w.alloc o):=turn_below ((Below.refl _ _).alloc (Nat.le_refl _) _)
theorem takes1 (h:St w rb last l) (s:ByteArray) (n:Nat) (hn:n=w.heap.size) (b:Bool) (hb:atF [s.data.toList] l=b) :
  Calls Tryz.prog 51 #[.pointer (some ⟨rb,0,none⟩),.slice (some ⟨n,0,none⟩) 1 1] (w.alloc (.cells #[.string s] 9)) fun e w'=>e = .returned (.bool b)∧St w' rb last (if b then l.tail else l)∧TurnR rb w w':=by
 subst hn
 subst hb
 exact (takes_calls (w.alloc (.cells #[.string s] 9)) rb last l (h.alloc _) w.heap.size [s] (Txs.new w [s] _ (by simp))).mono fun e w' hq=>⟨hq.1,hq.2.1,(alloc_turn w rb _).trans hq.2.2⟩
theorem isAt1 (h:St w rb last l) (s:ByteArray) (n:Nat) (hn:n=w.heap.size) (b:Bool) (hb:atF [s.data.toList] l=b) :
  Calls Tryz.prog 64 #[.pointer (some ⟨rb,0,none⟩),.slice (some ⟨n,0,none⟩) 1 1] (w.alloc (.cells #[.string s] 9)) fun e w'=>e = .returned (.bool b)∧Below w.heap.size w w':=by
 subst hn
 subst hb
 exact (isAt_calls (w.alloc (.cells #[.string s] 9)) rb last l (h.alloc _) w.heap.size [s] (Txs.new w [s] _ (by simp))).mono fun e w' hq=>⟨hq.1,((Below.refl _ _).alloc (Nat.le_refl _) _).trans (hq.2.mono (by simp))⟩
theorem must1 (h:St w rb last l) (s:ByteArray) (n:Nat) (hn:n=w.heap.size) (y:Except (Int × Int) (Unit × List Tl)) (hy:mustF last s.data.toList l=some y) :
  Calls Tryz.prog 82 #[.pointer (some ⟨rb,0,none⟩),.slice (some ⟨n,0,none⟩) 1 1] (w.alloc (.cells #[.string s] 9)) (PostS rb last w anyV y):=by
 subst hn
 refine (must_calls (w.alloc (.cells #[.string s] 9)) rb last l (h.alloc _) w.heap.size [s] (Txs.new w [s] _ (by simp)) h.lt y (by rw [show bl [s]=[s.data.toList] from rfl,musts_one];exact hy)).mono ?_
 intro e w' hq
 match y,hq with
 | .ok (a,r),hq=>exact ⟨hq.1,hq.2.1,(alloc_turn w rb _).trans hq.2.2⟩
 | .error (c,ln),hq=>exact ⟨hq.1,(alloc_turn w rb _).trans hq.2⟩
end
set_option maxRecDepth 100000 in
set_option maxHeartbeats 2000000 in
theorem end_calls (w:World) (rb last:Nat) (l:List Tl) (h:St w rb last l) (y:Except (Int × Int) (Unit × List Tl)) (hy:endF last l=some y) :
  Calls Tryz.prog 108 #[.pointer (some ⟨rb,0,none⟩)] w (PostS rb last w anyV y):=by
 have HS:=Lib.hid h
 have HA:=Lib.hid (here_calls w rb last l h)
 have hlt:=h.lt
 unfold endF at hy
 clear h
 go_enter Tryz.func108,Tryz.ntmps108
 go_wp2_with fail
 refine HA.out.mono ?_
 rintro e w2 ⟨rfl,hb2⟩
 have HB2:=Lib.hid hb2
 have hsz2:=hb2.size
 clear hb2
 unfold tokV
 have hblk:=Blk.new w2 37 #[.int .i64 (hereF last l).t.kind,.string ⟨(hereF last l).t.s.toArray⟩,.int .i64 (hereF last l).t.n,.int .i64 (hereF last l).line,.bool (hereF last l).nl]
 have HS2:=Lib.hid ((HS.out.below HB2.out).alloc (.cells #[.int .i64 (hereF last l).t.kind,.string ⟨(hereF last l).t.s.toArray⟩,.int .i64 (hereF last l).t.n,.int .i64 (hereF last l).line,.bool (hereF last l).nl] 37))
 have HT2:=Lib.hid (turn_below (rb:=rb) (HB2.out.alloc HB2.out.size (.cells #[.int .i64 (hereF last l).t.kind,.string ⟨(hereF last l).t.s.toArray⟩,.int .i64 (hereF last l).t.n,.int .i64 (hereF last l).line,.bool (hereF last l).nl] 37)))
 have hrb2:w2.heap.size≠rb:=by omega
 cases ha:atF [[59]] l with
 | true =>
  rw [ha,if_pos rfl] at hy
  have HY:Hid (y = .ok ((),l.tail)):=by
   have h3:some (Except.ok ((),l.tail))=some y:=hy
   injection h3 with h3
   exact Lib.hid h3.symm
  clear hy hblk
  go_wp2_with fail
  refine (takes1 HS2.out ⟨#[59]⟩ _ (by simp) true ha).mono ?_
  rintro e w3 ⟨rfl,hs3,ht3⟩
  have HS3:Hid (St w3 rb last l.tail):=Lib.hid (by simpa using hs3)
  have HT3:=Lib.hid (HT2.out.trans ht3)
  clear hs3 ht3
  go_wp2
  go_end0
  exact PostS.ok HY.out trivial HS3.out HT3.out
 | false =>
  rw [ha,if_neg (by decide)] at hy
  go_wp2_with fail
  refine (takes1 HS2.out ⟨#[59]⟩ _ (by simp) false ha).mono ?_
  rintro e w4 ⟨rfl,hs4,ht4⟩
  have HS4:Hid (St w4 rb last l):=Lib.hid (by simpa using hs4)
  have HT4:=Lib.hid (HT2.out.trans ht4)
  have hb4:=hblk.turn ht4 hrb2
  have a0:=hb4.cell 0
  have a4:=hb4.cell 4
  simp only [List.getElem?_toArray,List.getElem?_cons_zero,List.getElem?_cons_succ] at a0 a4
  clear hs4 ht4 hb4 hblk
  cases hk:((hereF last l).t.kind==0) with
  | true =>
   have hk':(hereF last l).t.kind=0:=by simpa using hk
   rw [if_neg (by simp [hk'])] at hy
   have HY:Hid (y = .ok ((),l)):=by
    have h3:some (Except.ok ((),l))=some y:=hy
    injection h3 with h3
    exact Lib.hid h3.symm
   rw [hk'] at a0
   clear hy hk hk'
   go_wp2
   go_end0
   exact PostS.ok HY.out trivial HS4.out HT4.out
  | false =>
   have hk':¬ (hereF last l).t.kind=0:=by simpa using hk
   cases hn:(hereF last l).nl with
   | true =>
    rw [if_neg (by simp [hn])] at hy
    have HY:Hid (y = .ok ((),l)):=by
     have h3:some (Except.ok ((),l))=some y:=hy
     injection h3 with h3
     exact Lib.hid h3.symm
    rw [hn] at a4
    clear hy
    go_wp2
    go_end0
    exact PostS.ok HY.out trivial HS4.out HT4.out
   | false =>
    rw [hn] at a4
    cases hc:atF [[125]] l with
    | true =>
     rw [if_neg (by simp [hc])] at hy
     have HY:Hid (y = .ok ((),l)):=by
      have h3:some (Except.ok ((),l))=some y:=hy
      injection h3 with h3
      exact Lib.hid h3.symm
     clear hy
     go_wp2_with fail
     refine (isAt1 HS4.out ⟨#[125]⟩ _ rfl true hc).mono ?_
     rintro e w5 ⟨rfl,hb5⟩
     have HB5:=Lib.hid hb5
     clear hb5
     go_wp2
     go_end0
     exact PostS.ok HY.out trivial (HS4.out.below HB5.out) (HT4.out.trans (turn_below HB5.out))
    | false =>
     rw [if_pos ⟨hk',hn,hc⟩] at hy
     have HY:Hid (y = .error (stopE last false l,((hereF last l).line:Int))):=by
      have h3:some (Except.error (stopE last false l,((hereF last l).line:Int)))=some y:=hy
      injection h3 with h3
      exact Lib.hid h3.symm
     clear hy
     go_wp2_with fail
     refine (isAt1 HS4.out ⟨#[125]⟩ _ rfl false hc).mono ?_
     rintro e w5 ⟨rfl,hb5⟩
     have HB5:=Lib.hid hb5
     clear hb5
     go_wp2_with fail
     refine (stops_calls w5 rb last l (HS4.out.below HB5.out) false).mono ?_
     rintro e w6 ⟨rfl,hb6⟩
     exact ⟨rfl,PostS.err HY.out ((HT4.out.trans (turn_below HB5.out)).trans (turn_below hb6))⟩
end
end Go.Proofs.YtjjdmiaonkailaaGreatDoor
