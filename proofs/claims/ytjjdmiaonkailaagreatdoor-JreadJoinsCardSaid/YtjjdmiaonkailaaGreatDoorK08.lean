/- Walks and plain laws, packed: LexB, Quote. -/
import Derived.Test.YtjjdmiaonkailaaGreatDoorK06
import Derived.Test.YtjjdmiaonkailaaGreatDoorK07
import Derived.Lib.IndexAny
import Derived.Deep.LoopGhost
import Derived.Test.YtjjdmiaonkailaaGreatDoorK05
import Derived.StillTailTactics
import Derived.Lib.FrozenHead
import Derived.Lib.OthersKept
namespace Go.Proofs.YtjjdmiaonkailaaGreatDoor
section
open Go.RowKit Go.Sort
theorem cell_kept {w w':World} (hb:Below w.heap.size w w') {a:Addr} {v:Value} (hc:w.cell? a=some v):w'.cell? a=some v:=(hb.cell (World.block_lt_of_cell? w a hc)).trans hc
structure LaidJ (w:World):Prop where
 laid:Laid w
 mx : ∃ m,w.cell? ⟨3,0,none⟩=some (.int .i64 m)
theorem LaidJ.below {w w':World} (h:LaidJ w) (hb:Below w.heap.size w w'):LaidJ w':=by
 obtain ⟨m,hm⟩:=h.mx
 exact ⟨h.laid.below hb,m,cell_kept hb hm⟩
theorem blankN_space {c:UInt8} {r:List UInt8} (h:0≤Lib.indexByte [32,9,13,10] c):blankN (c::r)=some 1:=by
 have:spacesL.contains c=true:=by rw [spacesL,Lib.contains_iff_indexByte];simpa using h
 rw [blankN,if_pos this]
theorem blankN_line {c:UInt8} {r:List UInt8} (h:¬ 0≤Lib.indexByte [32,9,13,10] c) (hp:[47,47].isPrefixOf (c::r)=true) :
  blankN (c::r)=some (if Lib.indexByte (c::r) 10<0 then (c::r).length else (Lib.indexByte (c::r) 10).toNat)∧0<(if Lib.indexByte (c::r) 10<0 then (c::r).length else (Lib.indexByte (c::r) 10).toNat):=by
 have:¬ spacesL.contains c=true:=by rw [spacesL,Lib.contains_iff_indexByte];simpa using h
 refine ⟨by rw [blankN,if_neg this,if_pos hp],?_⟩
 simp only [List.isPrefixOf,Bool.and_eq_true,beq_iff_eq] at hp
 obtain ⟨rfl,_⟩:=hp
 have h0:=Lib.indexByte_ge r 10
 have h1:Lib.indexByte (47::r) 10=if Lib.indexByte r 10 == -1 then -1 else Lib.indexByte r 10+1:=by simp [Lib.indexByte]
 split
 ·simp
 ·rename_i h2
  rw [h1] at h2 ⊢
  split at h2
  ·omega
  ·rename_i h3
   rw [if_neg h3]
   simp at h3
   omega
theorem blankN_open {c:UInt8} {r:List UInt8} (h:¬ 0≤Lib.indexByte [32,9,13,10] c) (hp:¬ [47,47].isPrefixOf (c::r)=true) (hq:[47,42].isPrefixOf (c::r)=true) :
  blankN (c::r)=if Lib.index ((c::r).drop 2) [42,47]<0 then none else some ((Lib.index ((c::r).drop 2) [42,47]).toNat+4):=by
 have:¬ spacesL.contains c=true:=by rw [spacesL,Lib.contains_iff_indexByte];simpa using h
 rw [blankN,if_neg this,if_neg hp,if_pos hq]
 rfl
theorem blankN_none {c:UInt8} {r:List UInt8} (h:¬ 0≤Lib.indexByte [32,9,13,10] c) (hp:¬ [47,47].isPrefixOf (c::r)=true) (hq:¬ [47,42].isPrefixOf (c::r)=true):blankN (c::r)=some 0:=by
 have:¬ spacesL.contains c=true:=by rw [spacesL,Lib.contains_iff_indexByte];simpa using h
 rw [blankN,if_neg this,if_neg hp,if_neg hq]
theorem blanksF_step {f n:Nat} {x:Sc} (h:blankN x.s=some n) (hn:0<n) (hf:x.s.length≤f) (hs:x.s≠[]) : ∃ g,blanksF f x=blanksF g (passF x n)∧(passF x n).s.length≤g∧(passF x n).s.length<x.s.length:=by
 have hl:0<x.s.length:=List.length_pos_iff.2 hs
 obtain ⟨g,rfl⟩ : ∃ g,f=g+1:=⟨f-1,by omega⟩
 obtain ⟨m,rfl⟩ : ∃ m,n=m+1:=⟨n-1,by omega⟩
 have hp:=passF_len x (m+1)
 exact ⟨g,by simp only [blanksF,h],by omega,by omega⟩
theorem blanksF_none {f:Nat} {x:Sc} (h:blankN x.s=none) (hf:x.s.length≤f) (hs:x.s≠[]):blanksF f x=(false,x):=by
 have hl:0<x.s.length:=List.length_pos_iff.2 hs
 obtain ⟨g,rfl⟩ : ∃ g,f=g+1:=⟨f-1,by omega⟩
 simp only [blanksF,h]
theorem passF_sum {x:Sc} {n B:Nat} (h:x.line+x.s.length≤B):(passF x n).line+(passF x n).s.length≤B:=by
 have h1:(x.s.take n).count 10≤(x.s.take n).length:=List.count_le_length
 simp only [passF,List.length_take,List.length_drop] at h1 ⊢
 omega
set_option maxRecDepth 100000 in
set_option maxHeartbeats 1600000 in
theorem blanks_calls (w:World) (b:Nat) (x:Sc) (hx:ScAt w b x) (hL : ∀ w',Turn (fun k=>k=b) w w'→LaidJ w') (hl:x.line+x.s.length≤1000000) :
  Calls Tryz.prog 61 #[.pointer (some ⟨b,0,none⟩)] w fun e w'=>e = .returned (.bool (blanksF x.s.length x).1)∧ScAt w' b (blanksF x.s.length x).2∧Turn (fun k=>k=b) w w':=by
 have HX:=Lib.hid hx
 have HJ:=Lib.hid hL
 have HLN:=Lib.hid hl
 clear hx hL hl
 go_enter Tryz.func61,Tryz.ntmps61
 go_wp2
 go_loopg [] (x.s.length) (fun k wr => ∃ (y:Sc) (f:Nat),k=y.s.length∧y.s.length≤f∧ScAt wr b y∧Turn (fun k=>k=b) w wr∧y.line+y.s.length≤1000000∧blanksF f y=blanksF x.s.length x)
 case atStart=>exact ⟨x,x.s.length,rfl,Nat.le_refl _,HX.out,Turn.refl _ _,HLN.out,rfl⟩
 case round =>
  obtain ⟨y,f,hk,hf,hat,hT,hln,hF⟩:=hrel
  have HAT:=Lib.hid hat
  obtain ⟨cur,hcur,hb⟩:=hat
  have HT:=Lib.hid hT
  have HF:=Lib.hid hF
  have HFL:=Lib.hid hf
  have HLY:=Lib.hid hln
  have HK:=Lib.hid hk
  have HC:=Lib.hid hcur
  have c0:=hb.cell 0
  clear hT hF hf hln hk hb
  cases hem:cur.toList.isEmpty with
  | true =>
   have hs:y.s=[]:=by
    rw [ByteArray.toList_eq] at hem
    rw [← hcur]
    exact List.isEmpty_iff.1 hem
   have HE:Hid (blanksF x.s.length x=(true,y)):=Lib.hid (by rw [← HF.out,blanksF_zero (by rw [hs];rfl)])
   clear hcur hs
   go_wp2
   go_ret
   rw [HE.out]
   exact ⟨rfl,HAT.out,HT.out⟩
  | false =>
   have hs:y.s≠[]:=by
    intro h
    rw [ByteArray.toList_eq,hcur,h] at hem
    simp at hem
   have hsz:cur.size=y.s.length:=by rw [size_len,hcur]
   have hpos:0<cur.size:=by rw [hsz];exact List.length_pos_iff.2 hs
   have hlen:cur.size≤1000000:=by have:=HLY.out;omega
   have hcons:y.s=cur[0]::y.s.drop 1:=by
    have h0:=byte_some hpos
    rw [hcur] at h0
    cases hy:y.s with
    | nil=>exact absurd hy hs
    | cons c r=>rw [hy] at h0;simp at h0;simp [h0]
   have HS:=Lib.hid hs
   have HCONS:=Lib.hid hcons
   have HSZ:=Lib.hid hsz
   clear hcons hs hsz hcur
   go_wp2_with fail
   refine (Tryz.strings_IndexByte _ _ _).mono ?_
   rintro e w' ⟨rfl,rfl⟩
   have e8:Lib.indexByte (⟨#[32,9,13,10]⟩:ByteArray).data.toList ((cur[0].toNat:Int)).toNat.toUInt8=Lib.indexByte [32,9,13,10] cur[0]:=by simp
   rw [e8]
   clear e8
   have HP1:=Lib.hid (Tryz.strings_HasPrefix cur ⟨#[47,47]⟩)
   have HP2:=Lib.hid (Tryz.strings_HasPrefix cur ⟨#[47,42]⟩)
   rw [show Lib.hasPrefix cur.data.toList (⟨#[47,47]⟩:ByteArray).data.toList=[47,47].isPrefixOf y.s by rw [HC.out];rfl] at HP1
   rw [show Lib.hasPrefix cur.data.toList (⟨#[47,42]⟩:ByteArray).data.toList=[47,42].isPrefixOf y.s by rw [HC.out];rfl] at HP2
   have HGO:Hid (∀ n:Nat,blankN y.s=some n→0<n→(∃ g,blanksF f y=blanksF g (passF y n)∧(passF y n).s.length≤g∧(passF y n).s.length<y.s.length)∧n≤y.s.length∧(passF y n).line+(passF y n).s.length≤1000000) :=
    Lib.hid fun n h1 h2=>⟨blanksF_step h1 h2 HFL.out HS.out,blankN_le _ h1,passF_sum HLY.out⟩
   obtain ⟨q,hq⟩ : ∃ q,Lib.indexByte [32,9,13,10] cur[0]=q:=⟨_,rfl⟩
   rw [hq]
   have HQ:=Lib.hid hq
   clear hq
   cases h1:decide (0≤q) with
   | true =>
    have hb1:blankN y.s=some 1:=by rw [HCONS.out];exact blankN_space (by rw [HQ.out];simpa using h1)
    obtain ⟨⟨g,hg1,hg2,hg3⟩,hle,hsum⟩:=HGO.out 1 hb1 (by decide)
    have HE:=Lib.hid hg1
    clear hb1 hg1
    go_wp2_with fail
    refine (pass_calls _ b y 1 HAT.out hle HLY.out).mono ?_
    rintro e w2 ⟨⟨v,rfl⟩,hat2,hT2⟩
    have HA2:=Lib.hid hat2
    have HT2:=Lib.hid (HT.out.trans hT2 (fun _ _ h=>h))
    clear hat2 hT2
    go_wp2
    go_roundg ((passF y 1).s.length)
    case measure=>rw [HK.out];exact hg3
    case rel=>exact ⟨passF y 1,g,rfl,hg2,HA2.out,HT2.out,hsum,by rw [← HE.out];exact HF.out⟩
   | false =>
   have hn1:¬ 0≤Lib.indexByte [32,9,13,10] cur[0]:=by rw [HQ.out];simpa using h1
   have HN1:=Lib.hid hn1
   clear hn1
   cases hp1:[47,47].isPrefixOf y.s with
   | true =>
    rw [hp1] at HP1
    have hbl:=blankN_line (r:=y.s.drop 1) HN1.out (by rw [← HCONS.out];exact hp1)
    rw [← HCONS.out] at hbl
    obtain ⟨m2,hm2⟩ : ∃ m2,(if Lib.indexByte y.s 10<0 then y.s.length else (Lib.indexByte y.s 10).toNat)=m2:=⟨_,rfl⟩
    rw [hm2] at hbl
    obtain ⟨⟨g,hg1,hg2,hg3⟩,hle,hsum⟩:=HGO.out m2 hbl.1 hbl.2
    have HE:=Lib.hid hg1
    obtain ⟨q2,hq2⟩ : ∃ q2,Lib.indexByte y.s 10=q2:=⟨_,rfl⟩
    rw [hq2] at hm2
    have HQ2:=Lib.hid hq2
    clear hbl hg1 hp1 hq2
    go_wp2_with fail
    refine (HP1.out _).mono ?_
    rintro e w' ⟨rfl,rfl⟩
    go_wp2_with fail
    refine (Tryz.strings_IndexByte _ _ _).mono ?_
    rintro e w' ⟨rfl,rfl⟩
    have e8:Lib.indexByte cur.data.toList (10:Int).toNat.toUInt8=q2:=by rw [HC.out,← HQ2.out];rfl
    rw [e8]
    clear e8
    cases h2:decide (q2<0) with
    | true =>
     rw [if_pos (by simpa using h2)] at hm2
     have hm3:(cur.size:Int)=(m2:Int):=by rw [HSZ.out,hm2]
     clear hm2
     go_wp2_with fail
     refine (pass_calls _ b y m2 HAT.out hle HLY.out).mono ?_
     rintro e w2 ⟨⟨v,rfl⟩,hat2,hT2⟩
     have HA2:=Lib.hid hat2
     have HT2:=Lib.hid (HT.out.trans hT2 (fun _ _ h=>h))
     clear hat2 hT2 hm3
     go_wp2
     go_roundg ((passF y m2).s.length)
     case measure=>rw [HK.out];exact hg3
     case rel=>exact ⟨passF y m2,g,rfl,hg2,HA2.out,HT2.out,hsum,by rw [← HE.out];exact HF.out⟩
    | false =>
     rw [if_neg (by simpa using h2)] at hm2
     have hm3:q2=(m2:Int):=by
      have:¬ q2<0:=by simpa using h2
      omega
     clear hm2
     subst hm3
     go_wp2_with fail
     refine (pass_calls _ b y m2 HAT.out hle HLY.out).mono ?_
     rintro e w2 ⟨⟨v,rfl⟩,hat2,hT2⟩
     have HA2:=Lib.hid hat2
     have HT2:=Lib.hid (HT.out.trans hT2 (fun _ _ h=>h))
     clear hat2 hT2
     go_wp2
     go_roundg ((passF y m2).s.length)
     case measure=>rw [HK.out];exact hg3
     case rel=>exact ⟨passF y m2,g,rfl,hg2,HA2.out,HT2.out,hsum,by rw [← HE.out];exact HF.out⟩
   | false =>
   rw [hp1] at HP1
   have hn2:¬ ([47,47]:List UInt8).isPrefixOf (cur[0]::y.s.drop 1)=true:=by rw [← HCONS.out,hp1];decide
   have HN2:=Lib.hid hn2
   clear hn2 hp1
   cases hp2:[47,42].isPrefixOf y.s with
   | true =>
    rw [hp2] at HP2
    have hbl:=blankN_open (r:=y.s.drop 1) HN1.out HN2.out (by rw [← HCONS.out];exact hp2)
    rw [← HCONS.out] at hbl
    obtain ⟨mx,hmx⟩:=(HJ.out _ HT.out).mx
    have hl2:2≤cur.size:=by
     have:=(pre_take hp2).2
     rw [HSZ.out]
     simpa using this
    obtain ⟨q3,hq3⟩ : ∃ q3,Lib.index (y.s.drop 2) [42,47]=q3:=⟨_,rfl⟩
    rw [hq3] at hbl
    have hlq:q3≤y.s.length:=by
     have h1:=Lib.index_ge (y.s.drop 2) [42,47]
     by_cases h2:0≤q3
     ·have h3:=Lib.index_room (y.s.drop 2) [42,47] (by rw [hq3];exact h2)
      rw [hq3] at h3
      simp only [List.length_drop,List.length_cons,List.length_nil] at h3
      omega
     ·omega
    have hlq2:q3≤1000000:=by have:=HSZ.out;omega
    have HI:=Lib.hid (Tryz.strings_Index (cur.extract 2 cur.size) ⟨#[42,47]⟩ mx _ (by rw [ByteArray.size_extract];omega) hmx)
    rw [extract_drop,HC.out,show (⟨#[42,47]⟩:ByteArray).data.toList=[42,47] from rfl,hq3] at HI
    have HBL:=Lib.hid hbl
    clear hbl hp2 hmx hq3 hlq
    go_wp2_with fail
    refine (HP1.out _).mono ?_
    rintro e w' ⟨rfl,rfl⟩
    go_wp2_with fail
    refine (HP2.out _).mono ?_
    rintro e w' ⟨rfl,rfl⟩
    go_wp2_with fail
    refine HI.out.mono ?_
    rintro e w' ⟨rfl,rfl⟩
    cases h2:decide (q3<0) with
    | true =>
     have HE:Hid (blanksF x.s.length x=(false,y)):=Lib.hid (by rw [← HF.out,blanksF_none (by rw [HBL.out,if_pos (by simpa using h2)]) HFL.out HS.out])
     go_wp2
     go_ret
     rw [HE.out]
     exact ⟨rfl,HAT.out,HT.out⟩
    | false =>
     have hq0:0≤q3:=by
      have:¬ q3<0:=by simpa using h2
      omega
     obtain ⟨m3,rfl⟩ : ∃ m3:Nat,q3=m3:=⟨q3.toNat,by omega⟩
     have hbl:blankN y.s=some (m3+4):=by rw [HBL.out,if_neg (by omega)];rfl
     obtain ⟨⟨g,hg1,hg2,hg3⟩,hle,hsum⟩:=HGO.out (m3+4) hbl (by omega)
     have HE:=Lib.hid hg1
     clear hg1 hbl hq0
     go_wp2_with fail
     rw [show (m3:Int)+4=((m3+4:Nat):Int) by omega]
     refine (pass_calls _ b y (m3+4) HAT.out hle HLY.out).mono ?_
     rintro e w2 ⟨⟨v,rfl⟩,hat2,hT2⟩
     have HA2:=Lib.hid hat2
     have HT2:=Lib.hid (HT.out.trans hT2 (fun _ _ h=>h))
     clear hat2 hT2
     go_wp2
     go_roundg ((passF y (m3+4)).s.length)
     case measure=>rw [HK.out];exact hg3
     case rel=>exact ⟨passF y (m3+4),g,rfl,hg2,HA2.out,HT2.out,hsum,by rw [← HE.out];exact HF.out⟩
   | false =>
    rw [hp2] at HP2
    have HE:Hid (blanksF x.s.length x=(true,y)):=Lib.hid (by
     rw [← HF.out,blanksF_zero]
     rw [HCONS.out]
     exact blankN_none HN1.out HN2.out (by rw [← HCONS.out,hp2];decide))
    clear hp2
    go_wp2_with fail
    refine (HP1.out _).mono ?_
    rintro e w' ⟨rfl,rfl⟩
    go_wp2_with fail
    refine (HP2.out _).mono ?_
    rintro e w' ⟨rfl,rfl⟩
    go_wp2
    go_ret
    rw [HE.out]
    exact ⟨rfl,HAT.out,HT.out⟩
end
section
open Go.RowKit Go.Sort
theorem builder_new (w:World):Lib.IsBuilderF 102 5 w.heap.size w.heap.size [] (w.alloc (.cells #[.pointer none,.slice none 0 0] 102)) :=
 .inl ⟨Nat.le_refl _,.slice none 0 0,heap_alloc_new _ _,⟨rfl,.inl ⟨rfl,rfl⟩⟩,by simp [Value.ownBlock]⟩
theorem builder_bel {T e:TypeId} {B b:Nat} {bs:List Value} {w w':World} (h:Lib.IsBuilderF T e B b bs w) (hb:Below w.heap.size w w'):Lib.IsBuilderF T e B b bs w':=by
 have hg:w.grownBy w' none:=⟨hb.os,hb.tape,hb.output,hb.size,fun k hk _=>hb.block k hk⟩
 have one : ∀ p,Lib.BuilderAtF T e B b p bs w→Lib.BuilderAtF T e B b p bs w':=by
  intro p h
  have hlt:=h.lt
  obtain ⟨hB,v,hc,hown,hne⟩:=h
  exact ⟨hB,v,(hb.block _ hlt).trans hc,hown.kept hg (by cases v.ownBlock <;> simp),hne⟩
 exact h.elim (fun x => .inl (one _ x)) (fun x => .inr (one _ x))
theorem cells_app (a b:List UInt8):Lib.byteCells (a++b)=Lib.byteCells a++Lib.byteCells b:=by simp [Lib.byteCells]
theorem cells_str (s:ByteArray):Lib.strCells s=Lib.byteCells s.data.toList:=rfl
structure Bld (w:World) (l:List UInt8) (wr:World):Prop where
 bld:Lib.IsBuilderF 102 5 w.heap.size w.heap.size (Lib.byteCells l) wr
 low:Below w.heap.size w wr
theorem Bld.new (w:World):Bld w [] (w.alloc (.cells #[.pointer none,.slice none 0 0] 102)):=⟨builder_new w,(Below.refl _ _).alloc (Nat.le_refl _) _⟩
theorem Bld.below {w wr w':World} {l:List UInt8} (h:Bld w l wr) (hb:Below wr.heap.size wr w'):Bld w l w':=⟨builder_bel h.bld hb,h.low.trans (hb.mono h.low.size)⟩
theorem Bld.byte {w wr:World} {l:List UInt8} (h:Bld w l wr) (c:UInt8) (hl:l.length+1≤140737488355328) :
  Calls Tryz.prog 113 #[.pointer (some ⟨w.heap.size,0,none⟩),.int .u8 c.toNat] wr fun e w'=>e = .returned .nilIface∧Bld w (l++[c]) w' :=
 (Tryz.Builder_WriteByte_k w.heap.size w.heap.size _ _ wr h.bld (by rw [Lib.byteCells_length];exact hl) h.low.size).mono fun _ _ ⟨he,hb,hlow,_⟩ =>
  ⟨he,.inr (by rw [cells_app];exact hb),h.low.trans hlow⟩
theorem Bld.text {w wr:World} {l:List UInt8} (h:Bld w l wr) (u:ByteArray) (hl:l.length+u.size≤140737488355328) :
  Calls Tryz.prog 66 #[.pointer (some ⟨w.heap.size,0,none⟩),.string u] wr fun e w'=>(∃ v,e = .returned v)∧Bld w (l++u.data.toList) w' :=
 (Tryz.Builder_WriteString_k w.heap.size w.heap.size _ _ wr h.bld (by rw [Lib.byteCells_length];exact hl) h.low.size).mono fun _ _ ⟨he,hb,hlow,_⟩ =>
  ⟨⟨_,he⟩,.inr (by rw [cells_app,← cells_str];exact hb),h.low.trans hlow⟩
theorem Bld.told {w wr:World} {l:List UInt8} (h:Bld w l wr) :
  Calls Tryz.prog 69 #[.pointer (some ⟨w.heap.size,0,none⟩)] wr fun e w'=>e = .returned (.string ⟨l.toArray⟩)∧Below w.heap.size w w' :=
 (Tryz.Builder_String_any_k w.heap.size w.heap.size l wr h.bld h.low.size).mono fun _ _ ⟨he,_,hlow,_⟩=>⟨he,h.low.trans hlow⟩
theorem flat_split (f:UInt8→List UInt8) (l:List UInt8) (k:Nat):l.flatMap f=(l.take k).flatMap f++(l.drop k).flatMap f:=by
 rw [← List.flatMap_append,List.take_append_drop]
theorem flat_next (f:UInt8→List UInt8) {l:List UInt8} {k:Nat} {c:UInt8} (h:l[k]? = some c):(l.take (k+1)).flatMap f=(l.take k).flatMap f++f c:=by
 rw [List.take_add_one,h,List.flatMap_append]
 simp
theorem byte_is {c d:UInt8} (h:((c.toNat:Int)==(d.toNat:Int))=true):c=d:=by
 have h1:(c.toNat:Int)=d.toNat:=by simpa using h
 exact UInt8.toNat_inj.1 (by omega)
theorem quote_room {l:List UInt8} (h:(quoteL l).length≤140737488355328) (k:Nat):([34]++(l.take k).flatMap quoteC).length+1≤140737488355328:=by
 have h1:=congrArg List.length (flat_split quoteC l k)
 unfold quoteL at h
 simp only [List.length_append,List.length_cons,List.length_nil] at h h1 ⊢
 omega
theorem hex_idx (q:Nat) (hq:q<16) (w:World):(Instr.index 9 (.string ⟨#[48,49,50,51,52,53,54,55,56,57,97,98,99,100,101,102]⟩) (.int .u8 (q:Int))).run Tryz.prog w = .ok (.int .u8 ((hexC q).toNat:Int)) w:=by
 have h:q=0∨q=1∨q=2∨q=3∨q=4∨q=5∨q=6∨q=7∨q=8∨q=9∨q=10∨q=11∨q=12∨q=13∨q=14∨q=15:=by omega
 rcases h with rfl | rfl | rfl | rfl | rfl | rfl | rfl | rfl | rfl | rfl | rfl | rfl | rfl | rfl | rfl | rfl <;> (show _=_;kernel_rfl)
theorem hex_conv (q:Nat) (hq:q<16) (w:World):(convert 5 9 (.int .u8 ((hexC q).toNat:Int))).run Tryz.prog w = .ok (.string ⟨#[hexC q]⟩) w:=by
 have h:q=0∨q=1∨q=2∨q=3∨q=4∨q=5∨q=6∨q=7∨q=8∨q=9∨q=10∨q=11∨q=12∨q=13∨q=14∨q=15:=by omega
 rcases h with rfl | rfl | rfl | rfl | rfl | rfl | rfl | rfl | rfl | rfl | rfl | rfl | rfl | rfl | rfl | rfl <;> (show _=_;kernel_rfl)
theorem and_15 : ∀ c:Fin 256,bits .and .u8 (c.val:Int) 15=((c.val % 16:Nat):Int):=by decide +kernel
set_option maxRecDepth 100000 in
set_option maxHeartbeats 2000000 in
theorem quote_calls (w:World) (s:ByteArray) (hs:(quoteL s.data.toList).length≤140737488355328) (hz:s.size≤maxLen) :
  Calls Tryz.prog 72 #[.string s] w fun e w'=>e = .returned (.string ⟨(quoteL s.data.toList).toArray⟩)∧Below w.heap.size w w':=by
 unfold maxLen at hz
 have HN:=Lib.hid (Bld.new w)
 have HLEN:=Lib.hid hs
 clear hs
 go_enter Tryz.func72,Tryz.ntmps72
 go_wp2_with fail
 refine (HN.out.byte 34 (by simp)).mono ?_
 rintro e w1 ⟨rfl,hb1⟩
 have HB1:=Lib.hid hb1
 clear hb1
 go_wp2
 go_loopw [9] (fun i wr => ∃ k:Nat,k≤s.size∧i = .int .i64 k∧Bld w ([34]++(s.data.toList.take k).flatMap quoteC) wr) (fun i _=>s.size-(intOf i).toNat)
 case atStart=>exact ⟨0,by omega,rfl,HB1.out⟩
 case round =>
  obtain ⟨k,hk,rfl,hb⟩:=hrel
  have HB:=Lib.hid hb
  clear hb
  by_cases hlt:k<s.size
  ·have hc:=byte_some hlt
   have HNX:=Lib.hid (flat_next quoteC hc)
   have hroom:=quote_room HLEN.out (k+1)
   rw [flat_next quoteC hc,← List.append_assoc,List.length_append] at hroom
   have HROOM:=Lib.hid hroom
   clear hc hroom
   have hq : ∀ c:UInt8,s[k]=c→quoteC (s[k])=quoteC c:=fun c h=>by rw [h]
   cases h10:((s[k].toNat:Int)==10) with
   | true =>
    have hx:s[k]=10:=byte_is (d:=10) h10
    have HQ:Hid (quoteC s[k]=[92,110]):=Lib.hid (by rw [hx];rfl)
    have HR:=Lib.hid (by have:=HROOM.out;rw [HQ.out] at this;exact this:([34]++(s.data.toList.take k).flatMap quoteC).length+_+1≤140737488355328)
    clear hx
    go_wp2_with fail
    refine (HB.out.text ⟨#[92,110]⟩ (by have:=HR.out;simp only [List.length_cons,List.length_nil] at this;show _+2≤_;omega)).mono ?_
    rintro e w2 ⟨⟨v,rfl⟩,hb2⟩
    have HB2:=Lib.hid hb2
    clear hb2
    go_wp2
    go_roundw
    case rel=>exact ⟨k+1,by omega,by go_num,by rw [HNX.out,HQ.out];exact (by rw [← List.append_assoc];exact HB2.out)⟩
    case measure=>simp [intOf];omega
   | false =>
   cases h9:((s[k].toNat:Int)==9) with
   | true =>
    have hx:s[k]=9:=byte_is (d:=9) h9
    have HQ:Hid (quoteC s[k]=[92,116]):=Lib.hid (by rw [hx];rfl)
    have HR:=Lib.hid (by have:=HROOM.out;rw [HQ.out] at this;exact this:([34]++(s.data.toList.take k).flatMap quoteC).length+_+1≤140737488355328)
    clear hx
    go_wp2_with fail
    refine (HB.out.text ⟨#[92,116]⟩ (by have:=HR.out;simp only [List.length_cons,List.length_nil] at this;show _+2≤_;omega)).mono ?_
    rintro e w2 ⟨⟨v,rfl⟩,hb2⟩
    have HB2:=Lib.hid hb2
    clear hb2
    go_wp2
    go_roundw
    case rel=>exact ⟨k+1,by omega,by go_num,by rw [HNX.out,HQ.out];exact (by rw [← List.append_assoc];exact HB2.out)⟩
    case measure=>simp [intOf];omega
   | false =>
   have hn10:s[k]≠10:=fun h=>by rw [h] at h10;simp at h10
   have hn9:s[k]≠9:=fun h=>by rw [h] at h9;simp at h9
   cases h34:((s[k].toNat:Int)==34) with
   | true =>
    have hx:s[k]=34:=byte_is (d:=34) h34
    have HQ:Hid (quoteC s[k]=[92,s[k]]):=Lib.hid (by rw [hx];rfl)
    have HR:=Lib.hid (by have:=HROOM.out;rw [HQ.out] at this;exact this:([34]++(s.data.toList.take k).flatMap quoteC).length+_+1≤140737488355328)
    clear hx
    go_wp2_with fail
    refine (HB.out.byte 92 (by have:=HR.out;omega)).mono ?_
    rintro e w2 ⟨rfl,hb2⟩
    have HB2:=Lib.hid hb2
    clear hb2
    go_wp2_with fail
    refine (HB2.out.byte s[k] (by have:=HR.out;rw [List.length_append];simp only [List.length_cons,List.length_nil] at this ⊢;omega)).mono ?_
    rintro e w3 ⟨rfl,hb3⟩
    have HB3:=Lib.hid hb3
    clear hb3
    go_wp2
    go_roundw
    case rel=>exact ⟨k+1,by omega,by go_num,by rw [HNX.out,HQ.out];exact (by rw [← List.append_assoc];have:=HB3.out;rw [List.append_assoc _ [92] [s[k]]] at this;exact this)⟩
    case measure=>simp [intOf];omega
   | false =>
   cases h92:((s[k].toNat:Int)==92) with
   | true =>
    have hx:s[k]=92:=byte_is (d:=92) h92
    have HQ:Hid (quoteC s[k]=[92,s[k]]):=Lib.hid (by rw [hx];rfl)
    have HR:=Lib.hid (by have:=HROOM.out;rw [HQ.out] at this;exact this:([34]++(s.data.toList.take k).flatMap quoteC).length+_+1≤140737488355328)
    clear hx
    go_wp2_with fail
    refine (HB.out.byte 92 (by have:=HR.out;omega)).mono ?_
    rintro e w2 ⟨rfl,hb2⟩
    have HB2:=Lib.hid hb2
    clear hb2
    go_wp2_with fail
    refine (HB2.out.byte s[k] (by have:=HR.out;rw [List.length_append];simp only [List.length_cons,List.length_nil] at this ⊢;omega)).mono ?_
    rintro e w3 ⟨rfl,hb3⟩
    have HB3:=Lib.hid hb3
    clear hb3
    go_wp2
    go_roundw
    case rel=>exact ⟨k+1,by omega,by go_num,by rw [HNX.out,HQ.out];exact (by rw [← List.append_assoc];have:=HB3.out;rw [List.append_assoc _ [92] [s[k]]] at this;exact this)⟩
    case measure=>simp [intOf];omega
   | false =>
   have hn34:s[k]≠34:=fun h=>by rw [h] at h34;simp at h34
   have hn92:s[k]≠92:=fun h=>by rw [h] at h92;simp at h92
   cases hp:(decide (32≤(s[k].toNat:Int))&&decide ((s[k].toNat:Int)≤126)) with
   | true =>
    have hp1:decide (32≤(s[k].toNat:Int))=true:=by rw [Bool.and_eq_true] at hp;exact hp.1
    have hp2:decide ((s[k].toNat:Int)≤126)=true:=by rw [Bool.and_eq_true] at hp;exact hp.2
    have HQ:Hid (quoteC s[k]=[s[k]]):=Lib.hid (by
     have q1:=of_decide_eq_true hp1
     have q2:=of_decide_eq_true hp2
     rw [quoteC,if_neg hn10,if_neg hn9,if_neg (by simp [hn34,hn92]),if_pos (by omega)])
    have HR:=Lib.hid (by have:=HROOM.out;rw [HQ.out] at this;exact this:([34]++(s.data.toList.take k).flatMap quoteC).length+_+1≤140737488355328)
    clear hn10 hn9 hn34 hn92 hp
    go_wp2_with fail
    refine (HB.out.byte s[k] (by have:=HR.out;omega)).mono ?_
    rintro e w2 ⟨rfl,hb2⟩
    have HB2:=Lib.hid hb2
    clear hb2
    go_wp2
    go_roundw
    case rel=>exact ⟨k+1,by omega,by go_num,by rw [HNX.out,HQ.out];exact (by rw [← List.append_assoc];exact HB2.out)⟩
    case measure=>simp [intOf];omega
   | false =>
    have hlt256:=s[k].toNat_lt
    have HQ:Hid (quoteC s[k]=[92,120,hexC (s[k].toNat / 16),hexC (s[k].toNat % 16)]):=Lib.hid (by
     rw [quoteC,if_neg hn10,if_neg hn9,if_neg (by simp [hn34,hn92]),if_neg ?_]
     intro hq
     simp at hp
     omega)
    clear hn10 hn9 hn34 hn92
    cases hp1:decide (32≤(s[k].toNat:Int)) with
    | false =>
     clear hp
     obtain ⟨qa,hqa⟩ : ∃ qa,qa=s[k].toNat / 16:=⟨_,rfl⟩
     obtain ⟨qb,hqb⟩ : ∃ qb,qb=s[k].toNat % 16:=⟨_,rfl⟩
     have hqa':(s[k].toNat:Int) / 16=(qa:Int):=by omega
     have hqb':(s[k].toNat:Int) % 16=(qb:Int):=by omega
     have hand:bits .and .u8 (s[k].toNat:Int) 15=(qb:Int):=by rw [hqb];exact and_15 ⟨s[k].toNat,hlt256⟩
     have ha16:qa<16:=by omega
     have hb16:qb<16:=by omega
     have hxa:=hex_idx qa ha16
     have hxb:=hex_idx qb hb16
     have hca:=hex_conv qa ha16
     have hcb:=hex_conv qb hb16
     rw [← hqa,← hqb] at HQ
     clear hqa hqb
     have HR:=Lib.hid (by have:=HROOM.out;rw [HQ.out] at this;exact this:([34]++(s.data.toList.take k).flatMap quoteC).length+_+1≤140737488355328)
     go_wp2
     go_still_tail 10,(by kernel_rfl)
     change wpList _ _ _ _ _ wr.drew
     have HU:Hid ((⟨#[92,120]⟩++⟨#[hexC qa]⟩++⟨#[hexC qb]⟩:ByteArray).data.toList=[92,120,hexC qa,hexC qb]∧(⟨#[92,120]⟩++⟨#[hexC qa]⟩++⟨#[hexC qb]⟩:ByteArray).size=4):=Lib.hid ⟨rfl,rfl⟩
     go_wp2_with fail
     generalize (⟨#[92,120]⟩++⟨#[hexC qa]⟩++⟨#[hexC qb]⟩:ByteArray)=u at HU ⊢
     refine ((HB.out.below (Below.refl _ _).drew).text u (by have:=HR.out;simp only [List.length_cons,List.length_nil] at this;rw [HU.out.2];omega)).mono ?_
     rintro e w2 ⟨⟨v,rfl⟩,hb2⟩
     rw [HU.out.1] at hb2
     have HB2:=Lib.hid hb2
     clear hb2
     go_wp2
     go_roundw
     case rel=>exact ⟨k+1,by omega,by go_num,by rw [HNX.out,HQ.out];exact (by rw [← List.append_assoc];exact HB2.out)⟩
     case measure=>simp [intOf];omega
    | true =>
     have hp2:decide ((s[k].toNat:Int)≤126)=false:=by rw [hp1] at hp;simpa using hp
     clear hp
     obtain ⟨qa,hqa⟩ : ∃ qa,qa=s[k].toNat / 16:=⟨_,rfl⟩
     obtain ⟨qb,hqb⟩ : ∃ qb,qb=s[k].toNat % 16:=⟨_,rfl⟩
     have hqa':(s[k].toNat:Int) / 16=(qa:Int):=by omega
     have hqb':(s[k].toNat:Int) % 16=(qb:Int):=by omega
     have hand:bits .and .u8 (s[k].toNat:Int) 15=(qb:Int):=by rw [hqb];exact and_15 ⟨s[k].toNat,hlt256⟩
     have ha16:qa<16:=by omega
     have hb16:qb<16:=by omega
     have hxa:=hex_idx qa ha16
     have hxb:=hex_idx qb hb16
     have hca:=hex_conv qa ha16
     have hcb:=hex_conv qb hb16
     rw [← hqa,← hqb] at HQ
     clear hqa hqb
     have HR:=Lib.hid (by have:=HROOM.out;rw [HQ.out] at this;exact this:([34]++(s.data.toList.take k).flatMap quoteC).length+_+1≤140737488355328)
     go_wp2
     go_still_tail 10,(by kernel_rfl)
     change wpList _ _ _ _ _ wr.drew
     have HU:Hid ((⟨#[92,120]⟩++⟨#[hexC qa]⟩++⟨#[hexC qb]⟩:ByteArray).data.toList=[92,120,hexC qa,hexC qb]∧(⟨#[92,120]⟩++⟨#[hexC qa]⟩++⟨#[hexC qb]⟩:ByteArray).size=4):=Lib.hid ⟨rfl,rfl⟩
     go_wp2_with fail
     generalize (⟨#[92,120]⟩++⟨#[hexC qa]⟩++⟨#[hexC qb]⟩:ByteArray)=u at HU ⊢
     refine ((HB.out.below (Below.refl _ _).drew).text u (by have:=HR.out;simp only [List.length_cons,List.length_nil] at this;rw [HU.out.2];omega)).mono ?_
     rintro e w2 ⟨⟨v,rfl⟩,hb2⟩
     rw [HU.out.1] at hb2
     have HB2:=Lib.hid hb2
     clear hb2
     go_wp2
     go_roundw
     case rel=>exact ⟨k+1,by omega,by go_num,by rw [HNX.out,HQ.out];exact (by rw [← List.append_assoc];exact HB2.out)⟩
     case measure=>simp [intOf];omega
  ·obtain rfl:k=s.size:=by omega
   have hdd:decide ((s.size:Int)<(s.size:Int))=false:=by simp
   have HE:Hid ([34]++(s.data.toList.take s.size).flatMap quoteC++[34]=quoteL s.data.toList):=Lib.hid (by
    have h1:s.data.toList.take s.size=s.data.toList:=List.take_of_length_le (Nat.le_of_eq (Array.length_toList:s.data.toList.length=s.size))
    rw [h1,quoteL])
   have HR:=Lib.hid (quote_room HLEN.out s.size)
   go_wp2_with fail
   refine (HB.out.byte 34 HR.out).mono ?_
   rintro e w2 ⟨rfl,hb2⟩
   rw [HE.out] at hb2
   have HB2:=Lib.hid hb2
   clear hb2
   go_wp2_with fail
   refine HB2.out.told.mono ?_
   rintro e w3 ⟨rfl,hb3⟩
   have HB3:=Lib.hid hb3
   clear hb3
   go_wp2
   go_ret
   exact ⟨rfl,HB3.out⟩
end
end Go.Proofs.YtjjdmiaonkailaaGreatDoor
