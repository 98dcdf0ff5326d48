/- Walks and plain laws, packed: LexC, Range, Fseq. -/
import Derived.Test.YtjjdmiaonkailaaGreatDoorK08
import Derived.Lib.AtoiErrMem
import Derived.Test.YtjjdmiaonkailaaGreatDoorK04
import Derived.RangeFuncNested
import Derived.RangeFuncBound
import Derived.RangeFuncCalls
import Derived.RangeFuncLeaves
import Derived.OwnWalkIn
import Derived.TacticsInMore
import Derived.LoopNIn
import Derived.LoopIn
import Derived.Test.YtjjdmiaonkailaaGreatDoorK07
namespace Go.Proofs.YtjjdmiaonkailaaGreatDoor
section
open Go.RowKit Go.Sort
theorem begins_at (w0:World) (s:ByteArray) (xs:List ByteArray) (hN:xs.length≤1000) :
  Calls Tryz.prog 103 #[.string s,.slice (some ⟨w0.heap.size,0,none⟩) xs.length xs.length] (w0.alloc (.cells ((xs.map Value.string).toArray) 9))
   fun e w'=>e = .returned (.int .i64 (beginsF s.data.toList (xs.map (·.data.toList)):Nat))∧Below w0.heap.size w0 w':=by
 have HB:=Lib.hid ((Below.refl w0.heap.size w0).alloc (Nat.le_refl _) (.cells ((xs.map Value.string).toArray) 9))
 have hcell : ∀ i,(w0.alloc (.cells ((xs.map Value.string).toArray) 9)).cell? ⟨w0.heap.size,i,none⟩=((xs.map Value.string).toArray)[i]? := fun i=>cell_of_row _ _ _ _ _ (0,0) (heap_alloc_new _ _)
 have HC:=Lib.hid hcell
 clear hcell
 generalize w0.alloc (.cells ((xs.map Value.string).toArray) 9)=w1 at HB HC ⊢
 go_enter Tryz.func103,Tryz.ntmps103
 go_wp2
 go_loopw [9] (fun i wr => ∃ k:Nat,k≤xs.length∧i = .int .i64 k∧wr=w1∧Hid (beginsF s.data.toList ((xs.drop k).map (·.data.toList))=beginsF s.data.toList (xs.map (·.data.toList)))) (fun i _=>xs.length-(intOf i).toNat)
 case atStart=>exact ⟨0,by omega,rfl,rfl,Lib.hid (by simp)⟩
 case round =>
  obtain ⟨k,hk,rfl,rfl,HF⟩:=hrel
  by_cases hlt:k<xs.length
  ·obtain ⟨x,hx⟩ : ∃ x,xs[k]? = some x:=⟨_,List.getElem?_eq_getElem hlt⟩
   have hc:wr.cell? ⟨w0.heap.size,k,none⟩=some (.string x):=by rw [HC.out];simp [hx]
   have hd:xs.drop k=x::xs.drop (k+1):=by
    rw [List.drop_eq_getElem_cons hlt]
    congr 1
    rw [List.getElem?_eq_getElem hlt] at hx
    exact Option.some.inj hx
   have hst:beginsF s.data.toList ((xs.drop k).map (·.data.toList))=if x.data.toList.isPrefixOf s.data.toList then x.data.toList.length else beginsF s.data.toList ((xs.drop (k+1)).map (·.data.toList)):=by
    rw [hd];rfl
   rw [HF.out] at hst
   have HST:=Lib.hid hst
   have HP:=Lib.hid (Tryz.strings_HasPrefix s x wr)
   simp only [Lib.hasPrefix] at HP
   clear hx hd hst
   cases hp:x.data.toList.isPrefixOf s.data.toList with
   | true =>
    rw [hp] at HST HP
    go_wp2_with fail
    refine HP.out.mono ?_
    rintro e w' ⟨rfl,rfl⟩
    go_wp2
    go_ret
    exact ⟨by rw [HST.out];simp,HB.out⟩
   | false =>
    rw [hp] at HST HP
    go_wp2_with fail
    refine HP.out.mono ?_
    rintro e w' ⟨rfl,rfl⟩
    go_wp2
    go_roundw
    case rel=>exact ⟨k+1,by omega,by go_num,by trivial,Lib.hid (by rw [HST.out];rfl)⟩
    case measure=>simp [intOf];omega
  ·obtain rfl:k=xs.length:=by omega
   have hdd:decide ((xs.length:Int)<(xs.length:Int))=false:=by simp
   have HZ:Hid (beginsF s.data.toList (xs.map (·.data.toList))=0):=Lib.hid (by rw [← HF.out];simp [beginsF])
   go_wp2
   go_ret
   exact ⟨by rw [HZ.out];rfl,HB.out⟩
def tkVal (t:Tk) (line:Int) (nl:Bool):Value := .agg #[.int .i64 t.kind,.string ⟨t.s.toArray⟩,.int .i64 t.n,.int .i64 line,.bool nl]
def tokOut (r:Tk × Nat × Int):Ending := .returned (.tuple #[tkVal r.1 0 false,.int .i64 r.2.1,.int .i64 r.2.2])
theorem digitB8_int (c:UInt8):digitI (c.toNat:Int)=digitB8 c:=rfl
theorem bs_ext {a b:ByteArray} (h:a.data.toList=b.data.toList):a=b:=by
 cases a;cases b
 simp at h
 subst h
 rfl
theorem take_bytes (s:ByteArray) (n:Nat):s.extract 0 n=⟨(s.data.toList.take n).toArray⟩:=bs_ext (extract_take s n)
theorem num_foldl : ∀ (l:List UInt8) (a:Nat),l.all digitB8=true→l.foldl (fun a c=>a*10+(c.toNat-48)) a<(a+1)*10 ^ l.length
 | [],a,_=>by simp
 | c::l,a,h=>by
  simp only [List.all_cons,Bool.and_eq_true] at h
  have hc:c.toNat≤57:=by
   have:=h.1
   simp only [digitB8,digitI,Bool.and_eq_true,decide_eq_true_eq] at this
   omega
  have:=num_foldl l (a*10+(c.toNat-48)) h.2
  rw [List.foldl_cons,List.length_cons]
  refine Nat.lt_of_lt_of_le this ?_
  rw [Nat.pow_succ,Nat.mul_comm (10 ^ l.length) 10,← Nat.mul_assoc]
  exact Nat.mul_le_mul_right _ (by omega)
theorem numV_lt {l:List UInt8} (h:l.all digitB8=true) (hl:l.length≤15):numV l<1000000000000000:=by
 have h1:=num_foldl l 0 h
 have h2:10 ^ l.length≤10 ^ 15:=Nat.pow_le_pow_right (by omega) hl
 unfold numV
 omega
theorem take_tw_all (p:UInt8→Bool) (l:List UInt8):(l.take (l.takeWhile p).length).all p=true:=by
 rw [tw_take,List.all_eq_true]
 exact fun b hb=>tw_mem hb
theorem parseUintM_num : ∀ (l:List UInt8) (a:Nat),l.all digitB8=true→(a+1)*10 ^ l.length≤1000000000000000→Lib.parseUintM 18446744073709551615 a l = .ok (l.foldl (fun a c=>a*10+(c.toNat-48)) a)
 | [],a,_,_=>rfl
 | c::l,a,h,hb=>by
  simp only [List.all_cons,Bool.and_eq_true] at h
  have hc:48≤c.toNat∧c.toNat≤57:=by
   have:=h.1
   simp only [digitB8,digitI,Bool.and_eq_true,decide_eq_true_eq] at this
   omega
  have h1:1≤10 ^ l.length:=Nat.pow_pos (by omega)
  rw [List.length_cons,Nat.pow_succ,Nat.mul_comm (10 ^ l.length) 10,← Nat.mul_assoc] at hb
  have h2:(a+1)*10≤(a+1)*10*10 ^ l.length:=Nat.le_mul_of_pos_right _ h1
  have h3:(a*10+(c.toNat-48)+1)*10 ^ l.length≤(a+1)*10*10 ^ l.length:=Nat.mul_le_mul_right _ (by omega)
  rw [Lib.parseUintM,if_pos hc,if_neg (by omega),if_neg (by omega),parseUintM_num l _ h.2 (by omega)]
  rfl
theorem parse_num {l:List UInt8} (h:l.all digitB8=true) (hl:l.length≤15) (h0:l≠[]):Lib.parseIntB 64 l = .ok (numV l:Int):=by
 cases l with
 | nil=>exact absurd rfl h0
 | cons c r =>
  have hb:10 ^ (c::r).length≤10 ^ 15:=Nat.pow_le_pow_right (by omega) hl
  have h1:=parseUintM_num (c::r) 0 h (by omega)
  have h2:=numV_lt h hl
  have hc:48≤c.toNat:=by
   have:=h
   simp only [List.all_cons,Bool.and_eq_true,digitB8,digitI,decide_eq_true_eq] at this
   omega
  have h3:Lib.parseUintB 64 (c::r) = .ok (numV (c::r)):=by rw [Lib.parseUintB,if_neg (by simp)];exact h1
  have h4:¬ (c.toNat=43∨c.toNat=45):=by omega
  have h5:¬ c.toNat=45:=by omega
  have h6:¬ (2 ^ (64-1)≤numV (c::r)):=by omega
  have h7:Lib.parseIntB 64 (c::r)=(match Lib.parseUintB 64 (if c.toNat=43∨c.toNat=45 then r else c::r) with
   | .syntax => .syntax
   | .range => .range
   | .ok u=>if ¬ c.toNat=45∧2 ^ (64-1)≤u then .range else if c.toNat=45∧2 ^ (64-1)<u then .range else .ok (if c.toNat=45 then -(u:Int) else u)):=rfl
  rw [h7,if_neg h4,h3]
  simp only [h5,h6,not_false_eq_true,and_false,false_and,if_false]
theorem numberF_at {l:List UInt8} {k:Nat} (h:(l.takeWhile digitB8).length=k):numberF l=if [46].isPrefixOf (l.drop k) then (.zero,0,25)
  else if namesB l≠k∨15<k∨(1<k∧l.head? = some 48) then (.zero,0,24) else (⟨3,[],numV (l.take k)⟩,k,0):=by
 simp only [numberF,h]
theorem tok_put {w:World} {b:Nat} {a0 a1 a2 a3 a4:Value} (hb:Blk w b 37 #[a0,a1,a2,a3,a4]) (v0 v1 v2 v3 v4:Value) :
  Blk (((((w.setCell ⟨b,0,none⟩ v0).setCell ⟨b,1,none⟩ v1).setCell ⟨b,2,none⟩ v2).setCell ⟨b,3,none⟩ v3).setCell ⟨b,4,none⟩ v4) b 37 #[v0,v1,v2,v3,v4] ∧
  Turn (fun k=>k=b) w (((((w.setCell ⟨b,0,none⟩ v0).setCell ⟨b,1,none⟩ v1).setCell ⟨b,2,none⟩ v2).setCell ⟨b,3,none⟩ v3).setCell ⟨b,4,none⟩ v4):=by
 refine ⟨?_,(((((Turn.refl (fun k=>k=b) w).setCell (p:=⟨b,0,none⟩) (fun _=>rfl) _).setCell (p:=⟨b,1,none⟩) (fun _=>rfl) _).setCell (p:=⟨b,2,none⟩) (fun _=>rfl) _).setCell (p:=⟨b,3,none⟩) (fun _=>rfl) _).setCell (p:=⟨b,4,none⟩) (fun _=>rfl) _⟩
 have h1:=((((hb.set_ 0 v0).set_ 1 v1).set_ 2 v2).set_ 3 v3).set_ 4 v4
 simpa [Array.setIfInBounds] using h1
theorem tok_ret {fn:Func} {p q r:Tmp} (h:fn.results=#[.cell p 37,.tmp q,.tmp r]) {tmps:Array Value} {w:World} {b:Nat} {v0 v1 v2 v3 v4:Value}
  (hp:tmps.getD p undef = .pointer (some ⟨b,0,none⟩)) (hb:Blk w b 37 #[v0,v1,v2,v3,v4]) {R:Ending→World→Prop}
  (hR:R (.returned (.tuple #[.agg #[v0,v1,v2,v3,v4],tmps.getD q undef,tmps.getD r undef])) w):bodyPost Tryz.prog fn R .ret { tmps:=tmps,defers:=[] } w:=by
 refine bodyPost_ret (v := .tuple #[.agg #[v0,v1,v2,v3,v4],tmps.getD q undef,tmps.getD r undef]) ?_ rfl hR
 have hl:=run_loadVar_row (P:=Tryz.prog) w b 37 37 #[v0,v1,v2,v3,v4] (0,0) _ hb Tryz.underlying37 rfl (by kernel_rfl)
 have hp':tmps[p]?.getD undef = .pointer (some ⟨b,0,none⟩):=by simpa using hp
 simp [results,h,hp',asAddr,hl]
set_option maxRecDepth 100000 in
set_option maxHeartbeats 1600000 in
theorem number_calls (w:World) (s:ByteArray) (hs:s.size≤1000000) (h0:0<s.size) (hd:digitB8 s[0]=true) :
  Calls Tryz.prog 101 #[.string s] w fun e w'=>e=tokOut (numberF s.data.toList)∧Below w.heap.size w w':=by
 obtain ⟨w0,hw0⟩ : ∃ w0,w.alloc (.cells #[.int .i64 0,.string ByteArray.empty,.int .i64 0,.int .i64 0,.bool false] 37)=w0:=⟨_,rfl⟩
 have hb0:Below w.heap.size w w0:=by rw [← hw0];exact (Below.refl _ _).alloc (Nat.le_refl _) _
 have hx0:Blk w0 w.heap.size 37 #[.int .i64 0,.string ByteArray.empty,.int .i64 0,.int .i64 0,.bool false]:=by rw [← hw0];exact Blk.new _ _ _
 have HB0:=Lib.hid hb0
 have HX0:=Lib.hid hx0
 have HD:=Lib.hid hd
 clear hb0 hx0 hd
 go_enter Tryz.func101,Tryz.ntmps101
 go_wp2
 go_loopw [5] (fun i wr => ∃ k:Nat,k≤s.size∧i = .int .i64 k∧wr=w0∧Hid (∀ j,j<k → ∃ c,s.data.toList[j]? = some c∧digitB8 c=true)) (fun i _=>s.size-(intOf i).toNat)
 case atStart=>exact ⟨0,by omega,rfl,by trivial,Lib.hid (fun j hj=>by omega)⟩
 case round =>
  obtain ⟨k,hk,rfl,rfl,HAL⟩:=hrel
  by_cases hlt:k<s.size
  ·have hc:=byte_some hlt
   have HC:=Lib.hid hc
   clear hc
   cases hl:digitB8 s[k] with
   | true =>
    have hl':digitI (s[k].toNat:Int)=true:=hl
    go_wp2_with (go_at_call 100;refine (isDigit_calls _ _).mono ?_;rintro e w' ⟨rfl,rfl⟩)
    go_roundw
    case rel =>
     refine ⟨k+1,by omega,by go_num,by trivial,Lib.hid fun j hj => ?_⟩
     by_cases hjk:j<k
     ·exact HAL.out j hjk
     ·obtain rfl:j=k:=by omega
      exact ⟨_,HC.out,hl⟩
    case measure=>simp [intOf];omega
   | false =>
    have hl':digitI (s[k].toNat:Int)=false:=hl
    have hn:(s.data.toList.takeWhile digitB8).length=k:=takeWhile_at HAL.out (.inr ⟨_,HC.out,hl⟩)
    go_wp2_with (go_at_call 100;refine (isDigit_calls _ _).mono ?_;rintro e w' ⟨rfl,rfl⟩)
    clear hl hl'
    have HF:=Lib.hid (numberF_at hn)
    have HP:=Lib.hid (Tryz.strings_HasPrefix (s.extract k s.size) ⟨#[46]⟩)
    rw [show Lib.hasPrefix (s.extract k s.size).data.toList (⟨#[46]⟩:ByteArray).data.toList=[46].isPrefixOf (s.data.toList.drop k) by rw [extract_drop];rfl] at HP
    have HHD:Hid (s.data.toList.head? = some s[0]):=Lib.hid (by rw [List.head?_eq_getElem?];exact byte_some h0)
    have HAD:Hid ((s.data.toList.take k).all digitB8=true∧s.data.toList.take k≠[]):=Lib.hid ⟨by rw [← hn];exact take_tw_all _ _,by
     intro h
     have hl:=congrArg List.length h
     rw [List.length_take,← size_len] at hl
     simp only [List.length_nil] at hl
     obtain rfl:k=0:=by omega
     have h1:=HHD.out
     have h2:=HD.out
     cases hc:s.data.toList with
     | nil=>rw [hc] at h1;simp at h1
     | cons c r =>
      rw [hc] at h1 hn
      injection h1 with h1
      rw [← h1] at h2
      have:=tw_pos (l:=r) h2
      omega⟩
    clear hn
    have c0:=HX0.out.cell 0
    have c1:=HX0.out.cell 1
    have c2:=HX0.out.cell 2
    have c3:=HX0.out.cell 3
    have c4:=HX0.out.cell 4
    have f0:=HX0.out.frozen 0
    have f1:=HX0.out.frozen 1
    have f2:=HX0.out.frozen 2
    have f3:=HX0.out.frozen 3
    have f4:=HX0.out.frozen 4
    cases hp:[46].isPrefixOf (s.data.toList.drop k) with
    | true =>
     rw [hp] at HP HF
     clear hp
     refine (HP.out _).mono ?_
     rintro e w' ⟨rfl,rfl⟩
     go_wp2
     refine tok_ret rfl rfl (tok_put HX0.out _ _ _ _ _).1 ⟨by rw [HF.out];rfl,?_⟩
     exact HB0.out.trans ((tok_put HX0.out _ _ _ _ _).2.below HB0.out.size (fun k e=>by omega))
    | false =>
     rw [hp] at HP HF
     clear hp
     refine (HP.out _).mono ?_
     rintro e w' ⟨rfl,rfl⟩
     obtain ⟨nm,hnm⟩ : ∃ nm,namesB s.data.toList=nm:=⟨_,rfl⟩
     have HNM:=Lib.hid (names_calls w' s (by unfold maxLen;omega))
     rw [hnm] at HF HNM
     clear hnm
     cases h1:((nm:Int)==(k:Int)) with
     | false =>
      have h1a:¬ ((nm:Int)=(k:Int)):=by intro h;rw [h] at h1;simp at h1
      replace HF:Hid (numberF s.data.toList=(.zero,0,24)):=Lib.hid (by rw [HF.out,if_neg (by simp),if_pos (.inl (by intro h;rw [h] at h1;simp at h1))])
      go_wp2_with (go_at_call 89;refine HNM.out.mono ?_;rintro e w' ⟨rfl,rfl⟩)
      refine tok_ret rfl rfl (tok_put HX0.out _ _ _ _ _).1 ⟨by rw [HF.out];rfl,?_⟩
      exact HB0.out.trans ((tok_put HX0.out _ _ _ _ _).2.below HB0.out.size (fun k e=>by omega))
     | true =>
      have h1':¬ nm≠k:=by simp at h1;omega
      obtain rfl:k=nm:=by simp at h1;omega
      clear h1
      cases h2:decide ((15:Int)<(k:Int)) with
      | true =>
       have h2a:(15:Int)<(k:Int):=of_decide_eq_true h2
       replace HF:Hid (numberF s.data.toList=(.zero,0,24)):=Lib.hid (by rw [HF.out,if_neg (by simp),if_pos (.inr (.inl (by have:=of_decide_eq_true h2;omega)))])
       go_wp2_with (go_at_call 89;refine HNM.out.mono ?_;rintro e w' ⟨rfl,rfl⟩)
       refine tok_ret rfl rfl (tok_put HX0.out _ _ _ _ _).1 ⟨by rw [HF.out];rfl,?_⟩
       exact HB0.out.trans ((tok_put HX0.out _ _ _ _ _).2.below HB0.out.size (fun k e=>by omega))
      | false =>
       have h2a:(k:Int)≤15:=by have:=of_decide_eq_false h2;omega
       have h2':¬ 15<k:=by have:=of_decide_eq_false h2;omega
       have HGO:Hid (¬ (1<k∧s.data.toList.head? = some 48)→numberF s.data.toList=(⟨3,[],numV (s.data.toList.take k)⟩,k,0)):=Lib.hid (fun h3=>by
        rw [HF.out,if_neg (by simp),if_neg (by rintro (h | h | h);exact h1' h;exact h2' h;exact h3 h)])
       have hv:=parse_num HAD.out.1 (by rw [List.length_take];omega) HAD.out.2
       have HPI:=Lib.hid (Tryz.strconv_ParseInt_10_at64_ok (s.extract 0 k) (by rw [ByteArray.size_extract];omega) _ (by rw [extract_take];exact hv) w')
       have HB1:Hid (∀ w9,(w9=w' ∨ ∃ t,w9=Lib.bytesWorld w' 5 t)→Below w'.heap.size w' w9):=Lib.hid (fun w9 h=>by
        rcases h with rfl | ⟨t,rfl⟩
        ·exact Below.refl _ _
        ·exact Lib.bytesWorld_below w' _ t)
       clear hv h1'
       cases h3:decide ((1:Int)<(k:Int)) with
       | false =>
        have h3a:(k:Int)≤1:=by have:=of_decide_eq_false h3;omega
        replace HGO:=Lib.hid (HGO.out (fun h=>by have:=of_decide_eq_false h3;omega))
        go_wp2_with (go_at_call 89;refine HNM.out.mono ?_;rintro e w' ⟨rfl,rfl⟩)
        refine HPI.out.mono ?_
        rintro e w9 ⟨rfl,h9⟩
        have HB9:=Lib.hid (HB1.out w9 h9)
        have HX9:=Lib.hid (HX0.out.keep (HB9.out.block _ HX0.out.lt))
        clear h9 c0 c1 c2 c3 c4 f0 f1 f2 f3 f4
        have c0:=HX9.out.cell 0
        have c1:=HX9.out.cell 1
        have c2:=HX9.out.cell 2
        have c3:=HX9.out.cell 3
        have c4:=HX9.out.cell 4
        have f0:=HX9.out.frozen 0
        have f1:=HX9.out.frozen 1
        have f2:=HX9.out.frozen 2
        have f3:=HX9.out.frozen 3
        have f4:=HX9.out.frozen 4
        go_wp2
        refine tok_ret rfl rfl (tok_put HX9.out _ _ _ _ _).1 ⟨by rw [HGO.out];rfl,?_⟩
        exact HB0.out.trans ((HB9.out.mono HB0.out.size).trans ((tok_put HX9.out _ _ _ _ _).2.below (Nat.le_trans HB0.out.size HB9.out.size) (fun k e=>by omega)))
       | true =>
        have h3a:(1:Int)<(k:Int):=of_decide_eq_true h3
        have hlt0:0<s.size:=h0
        cases h4:((s[0].toNat:Int)==48) with
        | true =>
         replace HF:Hid (numberF s.data.toList=(.zero,0,24)):=Lib.hid (by rw [HF.out,if_neg (by simp),if_pos (.inr (.inr ⟨by have:=of_decide_eq_true h3;omega,by rw [HHD.out,byte_is (d:=48) h4]⟩))])
         go_wp2_with (go_at_call 89;refine HNM.out.mono ?_;rintro e w' ⟨rfl,rfl⟩)
         refine tok_ret rfl rfl (tok_put HX0.out _ _ _ _ _).1 ⟨by rw [HF.out];rfl,?_⟩
         exact HB0.out.trans ((tok_put HX0.out _ _ _ _ _).2.below HB0.out.size (fun k e=>by omega))
        | false =>
         replace HGO:=Lib.hid (HGO.out (fun h=>by have h5:=h.2;rw [HHD.out] at h5;injection h5 with h5;rw [h5] at h4;simp at h4))
         go_wp2_with (go_at_call 89;refine HNM.out.mono ?_;rintro e w' ⟨rfl,rfl⟩)
         refine HPI.out.mono ?_
         rintro e w9 ⟨rfl,h9⟩
         have HB9:=Lib.hid (HB1.out w9 h9)
         have HX9:=Lib.hid (HX0.out.keep (HB9.out.block _ HX0.out.lt))
         clear h9 c0 c1 c2 c3 c4 f0 f1 f2 f3 f4
         have c0:=HX9.out.cell 0
         have c1:=HX9.out.cell 1
         have c2:=HX9.out.cell 2
         have c3:=HX9.out.cell 3
         have c4:=HX9.out.cell 4
         have f0:=HX9.out.frozen 0
         have f1:=HX9.out.frozen 1
         have f2:=HX9.out.frozen 2
         have f3:=HX9.out.frozen 3
         have f4:=HX9.out.frozen 4
         go_wp2
         refine tok_ret rfl rfl (tok_put HX9.out _ _ _ _ _).1 ⟨by rw [HGO.out];rfl,?_⟩
         exact HB0.out.trans ((HB9.out.mono HB0.out.size).trans ((tok_put HX9.out _ _ _ _ _).2.below (Nat.le_trans HB0.out.size HB9.out.size) (fun k e=>by omega)))
  ·have hn:(s.data.toList.takeWhile digitB8).length=k:=takeWhile_at HAL.out (.inl (by rw [← size_len];omega))
   have hdd:decide ((k:Int)<(s.size:Int))=false:=by simp;omega
   go_wp2_with fail
   clear hdd
   have HF:=Lib.hid (numberF_at hn)
   have HP:=Lib.hid (Tryz.strings_HasPrefix (s.extract k s.size) ⟨#[46]⟩)
   rw [show Lib.hasPrefix (s.extract k s.size).data.toList (⟨#[46]⟩:ByteArray).data.toList=[46].isPrefixOf (s.data.toList.drop k) by rw [extract_drop];rfl] at HP
   have HHD:Hid (s.data.toList.head? = some s[0]):=Lib.hid (by rw [List.head?_eq_getElem?];exact byte_some h0)
   have HAD:Hid ((s.data.toList.take k).all digitB8=true∧s.data.toList.take k≠[]):=Lib.hid ⟨by rw [← hn];exact take_tw_all _ _,by
    intro h
    have hl:=congrArg List.length h
    rw [List.length_take,← size_len] at hl
    simp only [List.length_nil] at hl
    obtain rfl:k=0:=by omega
    have h1:=HHD.out
    have h2:=HD.out
    cases hc:s.data.toList with
    | nil=>rw [hc] at h1;simp at h1
    | cons c r =>
     rw [hc] at h1 hn
     injection h1 with h1
     rw [← h1] at h2
     have:=tw_pos (l:=r) h2
     omega⟩
   clear hn
   have c0:=HX0.out.cell 0
   have c1:=HX0.out.cell 1
   have c2:=HX0.out.cell 2
   have c3:=HX0.out.cell 3
   have c4:=HX0.out.cell 4
   have f0:=HX0.out.frozen 0
   have f1:=HX0.out.frozen 1
   have f2:=HX0.out.frozen 2
   have f3:=HX0.out.frozen 3
   have f4:=HX0.out.frozen 4
   cases hp:[46].isPrefixOf (s.data.toList.drop k) with
   | true =>
    rw [hp] at HP HF
    clear hp
    refine (HP.out _).mono ?_
    rintro e w' ⟨rfl,rfl⟩
    go_wp2
    refine tok_ret rfl rfl (tok_put HX0.out _ _ _ _ _).1 ⟨by rw [HF.out];rfl,?_⟩
    exact HB0.out.trans ((tok_put HX0.out _ _ _ _ _).2.below HB0.out.size (fun k e=>by omega))
   | false =>
    rw [hp] at HP HF
    clear hp
    refine (HP.out _).mono ?_
    rintro e w' ⟨rfl,rfl⟩
    obtain ⟨nm,hnm⟩ : ∃ nm,namesB s.data.toList=nm:=⟨_,rfl⟩
    have HNM:=Lib.hid (names_calls w' s (by unfold maxLen;omega))
    rw [hnm] at HF HNM
    clear hnm
    cases h1:((nm:Int)==(k:Int)) with
    | false =>
     have h1a:¬ ((nm:Int)=(k:Int)):=by intro h;rw [h] at h1;simp at h1
     replace HF:Hid (numberF s.data.toList=(.zero,0,24)):=Lib.hid (by rw [HF.out,if_neg (by simp),if_pos (.inl (by intro h;rw [h] at h1;simp at h1))])
     go_wp2_with (go_at_call 89;refine HNM.out.mono ?_;rintro e w' ⟨rfl,rfl⟩)
     refine tok_ret rfl rfl (tok_put HX0.out _ _ _ _ _).1 ⟨by rw [HF.out];rfl,?_⟩
     exact HB0.out.trans ((tok_put HX0.out _ _ _ _ _).2.below HB0.out.size (fun k e=>by omega))
    | true =>
     have h1':¬ nm≠k:=by simp at h1;omega
     obtain rfl:k=nm:=by simp at h1;omega
     clear h1
     cases h2:decide ((15:Int)<(k:Int)) with
     | true =>
      have h2a:(15:Int)<(k:Int):=of_decide_eq_true h2
      replace HF:Hid (numberF s.data.toList=(.zero,0,24)):=Lib.hid (by rw [HF.out,if_neg (by simp),if_pos (.inr (.inl (by have:=of_decide_eq_true h2;omega)))])
      go_wp2_with (go_at_call 89;refine HNM.out.mono ?_;rintro e w' ⟨rfl,rfl⟩)
      refine tok_ret rfl rfl (tok_put HX0.out _ _ _ _ _).1 ⟨by rw [HF.out];rfl,?_⟩
      exact HB0.out.trans ((tok_put HX0.out _ _ _ _ _).2.below HB0.out.size (fun k e=>by omega))
     | false =>
      have h2a:(k:Int)≤15:=by have:=of_decide_eq_false h2;omega
      have h2':¬ 15<k:=by have:=of_decide_eq_false h2;omega
      have HGO:Hid (¬ (1<k∧s.data.toList.head? = some 48)→numberF s.data.toList=(⟨3,[],numV (s.data.toList.take k)⟩,k,0)):=Lib.hid (fun h3=>by
       rw [HF.out,if_neg (by simp),if_neg (by rintro (h | h | h);exact h1' h;exact h2' h;exact h3 h)])
      have hv:=parse_num HAD.out.1 (by rw [List.length_take];omega) HAD.out.2
      have HPI:=Lib.hid (Tryz.strconv_ParseInt_10_at64_ok (s.extract 0 k) (by rw [ByteArray.size_extract];omega) _ (by rw [extract_take];exact hv) w')
      have HB1:Hid (∀ w9,(w9=w' ∨ ∃ t,w9=Lib.bytesWorld w' 5 t)→Below w'.heap.size w' w9):=Lib.hid (fun w9 h=>by
       rcases h with rfl | ⟨t,rfl⟩
       ·exact Below.refl _ _
       ·exact Lib.bytesWorld_below w' _ t)
      clear hv h1'
      cases h3:decide ((1:Int)<(k:Int)) with
      | false =>
       have h3a:(k:Int)≤1:=by have:=of_decide_eq_false h3;omega
       replace HGO:=Lib.hid (HGO.out (fun h=>by have:=of_decide_eq_false h3;omega))
       go_wp2_with (go_at_call 89;refine HNM.out.mono ?_;rintro e w' ⟨rfl,rfl⟩)
       refine HPI.out.mono ?_
       rintro e w9 ⟨rfl,h9⟩
       have HB9:=Lib.hid (HB1.out w9 h9)
       have HX9:=Lib.hid (HX0.out.keep (HB9.out.block _ HX0.out.lt))
       clear h9 c0 c1 c2 c3 c4 f0 f1 f2 f3 f4
       have c0:=HX9.out.cell 0
       have c1:=HX9.out.cell 1
       have c2:=HX9.out.cell 2
       have c3:=HX9.out.cell 3
       have c4:=HX9.out.cell 4
       have f0:=HX9.out.frozen 0
       have f1:=HX9.out.frozen 1
       have f2:=HX9.out.frozen 2
       have f3:=HX9.out.frozen 3
       have f4:=HX9.out.frozen 4
       go_wp2
       refine tok_ret rfl rfl (tok_put HX9.out _ _ _ _ _).1 ⟨by rw [HGO.out];rfl,?_⟩
       exact HB0.out.trans ((HB9.out.mono HB0.out.size).trans ((tok_put HX9.out _ _ _ _ _).2.below (Nat.le_trans HB0.out.size HB9.out.size) (fun k e=>by omega)))
      | true =>
       have h3a:(1:Int)<(k:Int):=of_decide_eq_true h3
       have hlt0:0<s.size:=h0
       cases h4:((s[0].toNat:Int)==48) with
       | true =>
        replace HF:Hid (numberF s.data.toList=(.zero,0,24)):=Lib.hid (by rw [HF.out,if_neg (by simp),if_pos (.inr (.inr ⟨by have:=of_decide_eq_true h3;omega,by rw [HHD.out,byte_is (d:=48) h4]⟩))])
        go_wp2_with (go_at_call 89;refine HNM.out.mono ?_;rintro e w' ⟨rfl,rfl⟩)
        refine tok_ret rfl rfl (tok_put HX0.out _ _ _ _ _).1 ⟨by rw [HF.out];rfl,?_⟩
        exact HB0.out.trans ((tok_put HX0.out _ _ _ _ _).2.below HB0.out.size (fun k e=>by omega))
       | false =>
        replace HGO:=Lib.hid (HGO.out (fun h=>by have h5:=h.2;rw [HHD.out] at h5;injection h5 with h5;rw [h5] at h4;simp at h4))
        go_wp2_with (go_at_call 89;refine HNM.out.mono ?_;rintro e w' ⟨rfl,rfl⟩)
        refine HPI.out.mono ?_
        rintro e w9 ⟨rfl,h9⟩
        have HB9:=Lib.hid (HB1.out w9 h9)
        have HX9:=Lib.hid (HX0.out.keep (HB9.out.block _ HX0.out.lt))
        clear h9 c0 c1 c2 c3 c4 f0 f1 f2 f3 f4
        have c0:=HX9.out.cell 0
        have c1:=HX9.out.cell 1
        have c2:=HX9.out.cell 2
        have c3:=HX9.out.cell 3
        have c4:=HX9.out.cell 4
        have f0:=HX9.out.frozen 0
        have f1:=HX9.out.frozen 1
        have f2:=HX9.out.frozen 2
        have f3:=HX9.out.frozen 3
        have f4:=HX9.out.frozen 4
        go_wp2
        refine tok_ret rfl rfl (tok_put HX9.out _ _ _ _ _).1 ⟨by rw [HGO.out];rfl,?_⟩
        exact HB0.out.trans ((HB9.out.mono HB0.out.size).trans ((tok_put HX9.out _ _ _ _ _).2.below (Nat.le_trans HB0.out.size HB9.out.size) (fun k e=>by omega)))
end
section
open Go.RowKit
def recOf (fn:FuncId) (tmps:Array Value) (ps:Array Tmp) (assign body:Code) (D:Nat) (st:LoopState) (pe:Option Code):Obj :=
 .loop { state:=st,pending:=pe,fn,tmps,params:=ps,assign,body,defers:=D }
def leavePost (l:Nat) (R:LoopState→Option Code→Obj) (Go:World→Prop) (Stop:Code→World→Prop):Exit→Act→World→Prop
 | .normal,_,w=>w.heap[l]? = some (R .busy none)∧Go (w.putObj l (R .ready none))
 | .ret,_,w=>w.heap[l]? = some (R .busy none)∧Stop .ret (w.putObj l (R .done (some .ret)))
 | .exit id,_,w=>w.heap[l]? = some (R .busy none)∧Stop (.exit id) (w.putObj l (R .done (some (.exit id))))
 | .goto t,_,w=>w.heap[l]? = some (R .busy none)∧Stop (.goto t) (w.putObj l (R .done (some (.goto t))))
 | .panic _,_,_=>False
 | .outgrown,_,_=>False
variable {F:Fence} {n:Nat} {P:Program}
theorem yield_of {fn:FuncId} {tmps:Array Value} {ps:Array Tmp} {assign body:Code} {D l m:Nat} {args:Array Value} {W:World} {R:LoopState→Option Code→Obj} (hR:recOf fn tmps ps assign body D=R)
  (Go:World→Prop) (Stop:Code→World→Prop) (hF:F.fn fn)
  (hl:W.heap[l]? = some (R .ready none)) (hs:args.size=ps.size)
  (h:assign.wpIn (F.inRound l) m P (Exit.then (fun a1 W1=>W1.heap[l]? = some (R .ready none) ∧
    body.wpIn (F.inRound l) m P (leavePost l R Go Stop) a1 (W1.putObj l (R .busy none))) (fun _ _ _=>False))
   { tmps:=(ps.zip args).foldl (fun t (p,v)=>t.setIfInBounds p v) tmps,defers:=[] } W) :
  YieldAt F m P l args W fun e W'=>(e = .returned (.bool true)∧Go W')∨(e = .returned (.bool false) ∧ ∃ c,Stop c W'):=by
 subst hR
 refine ⟨fn,_,assign,body,run_yield hl hs,roundIn_of_wpIn hF ?_⟩
 refine wpIn_mono h ?_
 intro e a1 W1 hq
 cases e with
 | normal =>
  obtain ⟨hl1,hb⟩:=hq
  refine ⟨_,run_beginRound hl1 rfl,wpIn_mono hb ?_⟩
  intro e a2 W2 hq2
  cases e with
  | normal =>
   obtain ⟨hl2,hg⟩:=hq2
   exact ⟨_,_,run_endRound none hl2,.inl ⟨rfl,hg⟩⟩
  | ret =>
   obtain ⟨hl2,hg⟩:=hq2
   exact ⟨_,_,run_endRound (some .ret) hl2,.inr ⟨rfl,_,hg⟩⟩
  | exit id =>
   obtain ⟨hl2,hg⟩:=hq2
   exact ⟨_,_,run_endRound (some (.exit id)) hl2,.inr ⟨rfl,_,hg⟩⟩
  | goto t =>
   obtain ⟨hl2,hg⟩:=hq2
   exact ⟨_,_,run_endRound (some (.goto t)) hl2,.inr ⟨rfl,_,hg⟩⟩
  | panic c=>exact hq2.elim
  | outgrown=>exact hq2.elim
 | ret=>exact hq.elim
 | exit id=>exact hq.elim
 | goto t=>exact hq.elim
 | panic c=>exact hq.elim
 | outgrown=>exact hq.elim
theorem wpIn_one {c:Code} {Q:Exit→Act→World→Prop} {a:Act} {w:World} (A:Act) (X:World) (h:c.wpIn F n P (fun e a' w'=>e = .normal∧a'=A∧w'=X) a w) (hq:Q .normal A X):c.wpIn F n P Q a w :=
 wpIn_mono h (fun e a' w' hh=>by obtain ⟨rfl,rfl,rfl⟩:=hh;exact hq)
def behind (F:Fence) (n:Nat) (P:Program) (l D:Nat) (R:LoopState→Option Code→Obj) (Q:Exit→Act→World→Prop) (a':Act) (e:Ending) (W:World):Prop :=
 (∃ v,e = .returned v)∧W.heap[D]? = some (.deferred (some [])) ∧
  ((W.heap[l]? = some (R .ready none)∧Q .normal a' (W.putObj l (R .exhausted none))) ∨
   (∃ c,W.heap[l]? = some (R .done (some c))∧c.wpIn F n P Q a' (W.putObj l (R .exhausted (some c)))))
theorem range_outer {g:Operand} {ps:Array Tmp} {assign body:Code} {Q:Exit→Act→World→Prop} {a:Act} {w:World}
  (hro:F.round=none) (h1:1≤n) {gf:Nat} {lb:Array Value} (hg:a.eval g = .func (.func gf) #[] lb) (hFg:F.fn gf) (eg : ∀ args w,(callFunc gf args).run P w = .ok (.enter gf args) w)
  (h : ∀ fn R,F.fn fn→recOf fn a.tmps ps assign body w.heap.size=R→CallsIn F (n-1) P gf (#[.func (.yield (w.heap.size+1)) #[] #[]]++lb)
   ((w.alloc (.deferred (some []))).alloc (R .ready none))
   (behind F n P (w.heap.size+1) w.heap.size R Q { a with defers:={ target := .collected w.heap.size,args:=#[] }::a.defers })) :
  (Code.rangeFunc g ps assign body).wpIn F n P Q a w:=by
 refine wpIn_rangeFunc ?_
 intro fn hfn
 rw [hro]
 refine ⟨w.heap.size+1,[{ target := .collected w.heap.size,args:=#[] }],(w.alloc (.deferred (some []))).alloc (recOf fn a.tmps ps assign body w.heap.size .ready none),{ target := .fn (.func gf) lb,args:=#[.func (.yield (w.heap.size+1)) #[] #[]] },(w.alloc (.deferred (some []))).alloc (recOf fn a.tmps ps assign body w.heap.size .ready none),gf,
  #[.func (.yield (w.heap.size+1)) #[] #[]]++lb,(w.alloc (.deferred (some []))).alloc (recOf fn a.tmps ps assign body w.heap.size .ready none),run_enterLoop_outer _ _ _ _ _,?_,?_,?_,fun _=>h1,?_⟩
 ·simp only [resolve,hg]
  simp [go_sem]
 ·intro f' hf'
  simp [Target.leads] at hf'
  subst hf'
  exact hFg
 ·simp [invoke,go_sem,eg]
 ·refine (h fn _ hfn rfl).mono ?_
  rintro e W ⟨⟨v,rfl⟩,_,(⟨hl,hq⟩ | ⟨c,hl,hq⟩)⟩
  ·exact ⟨none,_,run_endLoop hl (by simp),hq⟩
  ·exact ⟨some c,_,run_endLoop hl (by simp),hq⟩
end
section
open Go.RowKit
theorem fseq_calls (w:World) (s:ByteArray) :
  Calls Tryz.prog 149 #[.string s] w fun e w'=>e = .returned (.func (.func 173) #[] #[.pointer (some ⟨w.heap.size,0,none⟩)]) ∧
   w.alloc (.cells #[.string s] 9)=w':=by
 go_enter Tryz.func149,Tryz.ntmps149
 go_wp2
 go_ret
 exact ⟨rfl,rfl⟩
def startAt (k:Nat):Int:=if fromAt k=k then -1 else fromAt k
set_option maxRecDepth 100000 in
set_option maxHeartbeats 2000000 in
theorem fseq1_in (n:Nat) (l sb:Nat) (x:ByteArray) (hx:x=wordsText) (J:Nat→World→Prop)
  (hJ : ∀ k W,J k W→Laid W∧W.cell? ⟨sb,0,none⟩=some (.string x))
  (hN : ∀ k W,k≤187→endAt k=false→J k W→J (k+1) W)
  (hY : ∀ k W,k≤187→endAt k=true→J k W→YieldAt Fence.wide (n-1) Tryz.prog l #[.string (x.extract (fromAt k) k)] W fun e W'=>e = .returned (.bool true)∧J (k+1) W')
  (W:World) (h0:J 0 W) :
  CallsIn Fence.wide n Tryz.prog 173 #[.func (.yield l) #[] #[],.pointer (some ⟨sb,0,none⟩)] W fun e W'=>(∃ v,e = .returned v)∧J 188 W':=by
 have hsz:x.size=187:=by rw [hx];exact words_size
 have HF:Hid (∀ k,k<188→(endAt k=true→fromAt k<k∧(k<187→(x.data.toList.getD k 0)=32)) ∧
  (endAt k=false→k<187∧(x.data.toList.getD k 0)≠32∧(x.data.toList.getD k 0).toNat<128)):=by
  refine Lib.hid fun k hk => ?_
  rw [hx]
  exact words_facts ⟨k,hk⟩
 have HS:Hid (∀ k,k<187→Lib.isSp (x.data.toList.getD k 0)=endAt k):=by
  refine Lib.hid fun k hk => ?_
  rw [hx]
  exact words_space ⟨k,hk⟩
 have HJ:=Lib.hid hJ
 have HN:=Lib.hid hN
 have HY:=Lib.hid hY
 clear hJ hN hY hx
 refine callsIn_of_wp Tryz.func173 rfl trivial ?_ rfl
 simp only [Tryz.ntmps173,List.size_toArray,List.length_cons,List.length_nil,Nat.reduceAdd,Nat.reduceSub,Array.replicate_succ,Array.replicate_zero,List.push_toArray,List.append_toArray,List.nil_append,List.cons_append]
 gi_wp2
 gi_loopw [3,4] (fun f i wr => ∃ k:Nat,k≤187∧i = .int .i64 k∧f = .int .i64 (startAt k)∧J k wr) (fun _ i _=>188-(intOf i).toNat)
 case atStart=>exact ⟨0,by omega,rfl,rfl,h0⟩
 case round =>
  obtain ⟨k,hk,rfl,rfl,hj⟩:=hrel
  obtain ⟨hl,hsb⟩:=HJ.out k wr hj
  have HL:=Lib.hid hl
  have HJK:=Lib.hid hj
  clear hl hj
  by_cases hlt:k<187
  ·have hlt':k<x.size:=by omega
   have hf:=HF.out k (by omega)
   have hs:=HS.out k hlt
   rw [byte_getD hlt'] at hf hs
   cases he:endAt k with
   | true =>
    have h32:=(hf.1 he).2 hlt
    have hfk:=(hf.1 he).1
    have hcell:=HL.out.space 32 (by decide)
    replace hcell:wr.cell? ⟨1,32,none⟩=some (.int .u8 1):=hcell
    have hst:startAt k=(fromAt k:Int):=by unfold startAt;rw [if_neg (by omega)]
    have hst':Hid (startAt (k+1) = -1):=Lib.hid (by unfold startAt;rw [fromAt,he];simp)
    obtain ⟨fn,tmps,assign,body,hy,hR⟩:=HY.out k wr hk he HJK.out
    rw [hst]
    clear hs hf hst he
    gi_wp2
    refine ⟨fun hh=>(by cases hh),hR.mono ?_⟩
    rintro e W3 ⟨rfl,hj3⟩
    have HJ3:=Lib.hid hj3
    clear hj3 hR hy hcell
    gi_wp2
    exact ⟨⟨k+1,by omega,by go_num,by rw [hst'.out],HJ3.out⟩,by simp [intOf];omega⟩
   | false =>
    rw [he] at hs
    have hc256:=(x[k]'hlt').toNat_lt
    have hcell:=HL.out.space (x[k]'hlt').toNat hc256
    rw [show UInt8.ofNat (x[k]'hlt').toNat=x[k]'hlt' by simp,hs] at hcell
    replace hcell:wr.cell? ⟨1,(x[k]'hlt').toNat,none⟩=some (.int .u8 0):=hcell
    have hlow:=(hf.2 he).2.2
    have HJN:=Lib.hid (HN.out k wr hk he HJK.out)
    have hnx:Hid (fromAt (k+1)=fromAt k):=Lib.hid (by rw [fromAt,he];rfl)
    have hle:=fromAt_le k
    clear hs hf he
    by_cases hw:fromAt k=k
    ·have hst:startAt k = -1:=by unfold startAt;rw [if_pos hw]
     have hst':Hid (startAt (k+1)=k):=Lib.hid (by unfold startAt;rw [hnx.out,if_neg (by omega),hw])
     rw [hst]
     clear hst hw
     gi_wp2
     exact ⟨⟨k+1,by omega,by go_num,by rw [hst'.out],HJN.out⟩,by simp [intOf];omega⟩
    ·have hst:startAt k=(fromAt k:Int):=by unfold startAt;rw [if_neg (by omega)]
     have hst':Hid (startAt (k+1)=fromAt k):=Lib.hid (by unfold startAt;rw [hnx.out,if_neg (by omega)])
     rw [hst]
     clear hst hw
     gi_wp2
     exact ⟨⟨k+1,by omega,by go_num,by rw [hst'.out],HJN.out⟩,by simp [intOf];omega⟩
  ·obtain rfl:k=187:=by omega
   have dd:decide ((187:Int)<187)=false:=by decide
   have he:endAt 187=true:=by
    have:=HF.out 187 (by omega)
    cases he:endAt 187 with
    | true=>rfl
    | false=>exact absurd (this.2 he).1 (by omega)
   have hfk:=((HF.out 187 (by omega)).1 he).1
   have hst:startAt 187=(fromAt 187:Int):=by unfold startAt;rw [if_neg (by omega)]
   obtain ⟨fn,tmps,assign,body,hy,hR⟩:=HY.out 187 wr hk he HJK.out
   rw [hst]
   clear hst he
   gi_wp2
   refine ⟨fun hh=>(by cases hh),hR.mono ?_⟩
   rintro e W3 ⟨rfl,hj3⟩
   have HJ3:=Lib.hid hj3
   clear hj3 hR hy
   gi_wp2
   go_end0
   exact ⟨⟨_,rfl⟩,HJ3.out⟩
end
end Go.Proofs.YtjjdmiaonkailaaGreatDoor
