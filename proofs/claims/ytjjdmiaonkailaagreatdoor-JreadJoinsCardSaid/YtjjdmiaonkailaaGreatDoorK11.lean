/- Walks and plain laws, packed: LexE, LexG, LexT. -/
import Derived.Test.YtjjdmiaonkailaaGreatDoorK09
import Derived.Lib.ConvBytes
import Derived.Lib.SlTrimSet
import Derived.BigCall
import Derived.BigGuard
import Derived.Test.YtjjdmiaonkailaaGreatDoorK10
namespace Go.Proofs.YtjjdmiaonkailaaGreatDoor
section
open Go.RowKit Go.Sort
theorem lower_calls (w:World) (c:Int):Calls Tryz.prog 194 #[.int .u8 c] w fun e w'=>e = .returned (.int .u8 (bits .or .u8 c 32))∧w=w':=by
 go_enter Tryz.func194,Tryz.ntmps194
 go_wp2
 go_ret
 exact ⟨rfl,rfl⟩
theorem or_32 : ∀ c:Fin 256,hexB (UInt8.ofNat c.val)=true→57<c.val→bits .or .u8 (c.val:Int) 32=c.val:=by decide +kernel
theorem hexB_cases {c:UInt8} (h:hexB c=true):(48≤c.toNat∧c.toNat≤57∧hexV c=c.toNat-48)∨(97≤c.toNat∧c.toNat≤102∧hexV c=c.toNat-87∧bits .or .u8 (c.toNat:Int) 32=c.toNat):=by
 have h0:=h
 simp only [hexB,Bool.or_eq_true,Bool.and_eq_true,decide_eq_true_eq] at h
 rcases h with ⟨h1,h2⟩ | ⟨h1,h2⟩
 ·exact .inl ⟨h1,h2,by unfold hexV;rw [if_pos h2]⟩
 ·have:=or_32 ⟨c.toNat,c.toNat_lt⟩ (by simpa using h0) (by show 57<c.toNat;omega)
  exact .inr ⟨h1,h2,by unfold hexV;rw [if_neg (by omega)],this⟩
def hexTo (x y:UInt8):Nat→Nat
 | 0=>0
 | 1=>hexV x
 | _=>16*hexV x+hexV y
theorem hexTo_next {x y:UInt8} (hx:hexB x=true) (hy:hexB y=true) (k:Nat) (hk:k<2):hexB ([x,y].getD k 0)=true∧hexTo x y k≤15∧hexTo x y (k+1)=hexTo x y k*16+hexV ([x,y].getD k 0):=by
 have h1:hexV x≤15:=by rcases hexB_cases hx with ⟨_,_,h⟩ | ⟨_,_,h,_⟩ <;> omega
 match k,hk with
 | 0,_=>exact ⟨hx,by simp [hexTo],by simp [hexTo]⟩
 | 1,_=>exact ⟨hy,h1,by simp [hexTo];omega⟩
set_option maxRecDepth 100000 in
set_option maxHeartbeats 4000000 in
theorem parse16_calls (w:World) (t:ByteArray) (x y:UInt8) (ht:t.data.toList=[x,y]) (hx:hexB x=true) (hy:hexB y=true) :
  Calls Tryz.prog 176 #[.string t,.int .i64 16,.int .i64 8] w fun e w'=>e = .returned (.tuple #[.int .u64 (16*hexV x+hexV y:Nat),.nilIface])∧Below w.heap.size w w':=by
 have hsz:t.size=2:=by rw [size_len,ht];rfl
 have hemp:t.toList.isEmpty=false:=by rw [ByteArray.toList_eq,ht];rfl
 have hcv:=Lib.run_convert_string_bytes (P:=Tryz.prog) w 9 100 5 t (u := .string) Tryz.underlying9 Tryz.underlying100 Tryz.underlying5
 have hB : ∀ j,j<t.size→(Lib.bytesWorld w 5 t).cell? ⟨w.heap.size,j,none⟩=some (.int .u8 (t.data.toList.getD j 0).toNat):=fun j hj=>Lib.bytesWorld_cell w 5 t j hj
 have HB0:=Lib.hid (Lib.bytesWorld_below w 5 t)
 obtain ⟨W1,hW1⟩ : ∃ W1,W1=Lib.bytesWorld w 5 t:=⟨_,rfl⟩
 rw [← hW1] at hcv hB HB0
 have HB:=Lib.hid hB
 have HV:=Lib.hid (hexTo_next hx hy)
 have HE:Hid (hexTo x y 2=16*hexV x+hexV y):=Lib.hid rfl
 have HT:=Lib.hid ht
 clear hW1 hB hx hy ht
 have hmv:IntKind.u64.wrap (IntKind.u64.wrap 256-1)=255:=by
  rw [IntKind.wrap_u64,IntKind.wrap_u64]
  decide
 go_enter Tryz.func176,Tryz.ntmps176
 go_wp2
 go_loopw [12,13,101] (fun vu vn vi wr => ∃ (k:Nat) (a:Int),vu = .bool false∧vn = .int .u64 a∧vi = .int .i64 k∧k≤2∧wr=W1∧Hid (a=(hexTo x y k:Int)))
  (fun _ _ vi _=>2-(intOf vi).toNat)
 case atStart=>exact ⟨0,0,rfl,rfl,rfl,by omega,by trivial,Lib.hid rfl⟩
 case round =>
  obtain ⟨k,a,rfl,rfl,rfl,hk,rfl,HA⟩:=hrel
  by_cases hkn:k<2
  ·have hc:=HB.out k (by omega)
   rw [HT.out] at hc
   obtain ⟨h1,h2,h3⟩:=HV.out k hkn
   generalize [x,y].getD k 0=c at hc h1 h3
   have hc256:c.toNat<256:=c.toNat_lt
   have a0:0≤a:=by have:=HA.out;omega
   have a1:a≤15:=by have:=HA.out;omega
   have HX:=Lib.hid h3
   rcases hexB_cases h1 with ⟨hd0,hd1,hd2⟩ | ⟨hd0,hd1,hd2,hd3⟩
   ·have HN:Hid (a*16+((c.toNat:Int)-48)=(hexTo x y (k+1):Int)):=Lib.hid (by have:=HA.out;rw [HX.out,hd2];omega)
    have iov:a*16+((c.toNat:Int)-48)≤255:=by omega
    have icut:a<1152921504606846976:=by omega
    clear h1 h2 h3 hd2
    go_wp2
    exact ⟨⟨k+1,a*16+((c.toNat:Int)-48),rfl,(by first | rfl | (congr 1;omega)),(by first | rfl | (congr 1;omega)),by omega,by trivial,HN⟩,by simp [intOf];omega⟩
   ·have HN:Hid (a*16+((c.toNat:Int)-87)=(hexTo x y (k+1):Int)):=Lib.hid (by have:=HA.out;rw [HX.out,hd2];omega)
    have iov:a*16+((c.toNat:Int)-97+10)≤255:=by omega
    have icut:a<1152921504606846976:=by omega
    clear h1 h2 h3 hd2
    go_wp2_with (go_at_call 194;refine (lower_calls _ _).mono ?_;rintro e w' ⟨rfl,rfl⟩)
    exact ⟨⟨k+1,a*16+((c.toNat:Int)-87),rfl,(by first | rfl | (congr 1;omega)),(by first | rfl | (congr 1;omega)),by omega,by trivial,HN⟩,by simp [intOf];omega⟩
  ·obtain rfl:k=2:=by omega
   go_wp2
   go_ret2
   exact ⟨by rw [HA.out,HE.out];rfl,HB0.out⟩
set_option maxRecDepth 100000 in
set_option maxHeartbeats 1000000 in
theorem pub16_calls (w:World) (t:ByteArray) (x y:UInt8) (ht:t.data.toList=[x,y]) (hx:hexB x=true) (hy:hexB y=true) :
  Calls Tryz.prog 157 #[.string t,.int .i64 16,.int .i64 8] w fun e w'=>e = .returned (.tuple #[.int .u64 (16*hexV x+hexV y:Nat),.nilIface])∧Below w.heap.size w w':=by
 have HC:=Lib.hid (parse16_calls w t x y ht hx hy)
 generalize 16*hexV x+hexV y=q at HC ⊢
 clear ht hx hy
 go_enter Tryz.func157,Tryz.ntmps157
 go_wp2_with fail
 refine HC.out.mono ?_
 rintro e w' ⟨rfl,hb⟩
 have HB:=Lib.hid hb
 clear hb
 go_wp2
 go_ret2
 exact ⟨rfl,HB.out⟩
def hexSet:ByteArray:=⟨#[48,49,50,51,52,53,54,55,56,57,97,98,99,100,101,102]⟩
theorem hexSet_is : ∀ c:Fin 256,hexSet.data.toList.contains (UInt8.ofNat c.val)=hexB (UInt8.ofNat c.val):=by decide +kernel
theorem hexSet_at (c:UInt8):hexSet.data.toList.contains c=hexB c:=by
 have:=hexSet_is ⟨c.toNat,c.toNat_lt⟩
 simpa using this
theorem hexSet_ascii : ∀ (j:Nat) b,hexSet.data.toList[j]? = some b→b.toNat<128:=by
 intro j b h
 have hm:=List.mem_of_getElem? h
 have : ∀ x ∈ hexSet.data.toList,x.toNat<128:=by decide +kernel
 exact this b hm
theorem trim_two (a b:UInt8):(Lib.trimS [a,b] hexSet.data.toList=[]) ↔ (hexB a&&hexB b)=true:=by
 rw [← hexSet_at a,← hexSet_at b]
 generalize hexSet.data.toList=cs
 unfold Lib.trimS Lib.trimLeftS Lib.trimRightS
 cases h1:cs.contains a <;> cases h2:cs.contains b <;>
  simp only [List.reverse_cons,List.reverse_nil,List.nil_append,List.cons_append,List.dropWhile,h1,h2] <;> simp
def escOut (r:Option (UInt8 × Nat)):Ending:=match r with
 | none => .returned (.tuple #[.int .u8 0,.int .i64 0])
 | some p => .returned (.tuple #[.int .u8 p.1.toNat,.int .i64 p.2])
theorem byte_u8 (n:Nat) (h:n<256):(UInt8.ofNat n).toNat=n:=by simp;omega
set_option maxRecDepth 100000 in
set_option maxHeartbeats 1600000 in
theorem escaped_calls (w:World) (s:ByteArray) (hs:s.size≤1000000) :
  Calls Tryz.prog 128 #[.string s] w fun e w'=>e=escOut (escapedF s.data.toList)∧Below w.heap.size w w':=by
 obtain ⟨l,hl⟩ : ∃ l,s.data.toList=l:=⟨_,rfl⟩
 have hsz:s.size=l.length:=by rw [size_len,hl]
 rw [hl]
 cases l with
 | nil =>
  have hem:s.toList.isEmpty=true:=by rw [ByteArray.toList_eq,hl];rfl
  clear hl hsz
  go_enter Tryz.func128,Tryz.ntmps128
  go_wp2
  go_ret2
  exact ⟨rfl,Below.refl _ _⟩
 | cons c r =>
  have hem:s.toList.isEmpty=false:=by rw [ByteArray.toList_eq,hl];rfl
  have hpos:0<s.size:=by rw [hsz];simp
  have hc0:s[0]=c:=byte_at hpos (by rw [hl];rfl)
  have HL:=Lib.hid hl
  have HSZ:=Lib.hid hsz
  clear hl hsz
  cases h1:((c.toNat:Int)==110) with
  | true =>
   have HE:Hid (escapedF (c::r)=some (10,1)):=Lib.hid (by rw [byte_is (d:=110) h1];rfl)
   go_enter Tryz.func128,Tryz.ntmps128
   go_wp2
   go_ret2
   exact ⟨by rw [HE.out];rfl,Below.refl _ _⟩
  | false =>
  cases h2:((c.toNat:Int)==116) with
  | true =>
   have HE:Hid (escapedF (c::r)=some (9,1)):=Lib.hid (by rw [byte_is (d:=116) h2];rfl)
   go_enter Tryz.func128,Tryz.ntmps128
   go_wp2
   go_ret2
   exact ⟨by rw [HE.out];rfl,Below.refl _ _⟩
  | false =>
  cases h3:((c.toNat:Int)==92) with
  | true =>
   have HE:Hid (escapedF (c::r)=some (c,1)):=Lib.hid (by rw [byte_is (d:=92) h3];rfl)
   go_enter Tryz.func128,Tryz.ntmps128
   go_wp2
   go_ret2
   exact ⟨by rw [HE.out];rfl,Below.refl _ _⟩
  | false =>
  cases h4:((c.toNat:Int)==34) with
  | true =>
   have HE:Hid (escapedF (c::r)=some (c,1)):=Lib.hid (by rw [byte_is (d:=34) h4];rfl)
   go_enter Tryz.func128,Tryz.ntmps128
   go_wp2
   go_ret2
   exact ⟨by rw [HE.out];rfl,Below.refl _ _⟩
  | false =>
  cases h5:((c.toNat:Int)==39) with
  | true =>
   have HE:Hid (escapedF (c::r)=some (c,1)):=Lib.hid (by rw [byte_is (d:=39) h5];rfl)
   go_enter Tryz.func128,Tryz.ntmps128
   go_wp2
   go_ret2
   exact ⟨by rw [HE.out];rfl,Below.refl _ _⟩
  | false =>
  have n1:c≠110:=fun h=>by rw [h] at h1;simp at h1
  have n2:c≠116:=fun h=>by rw [h] at h2;simp at h2
  have n3:¬ (c=92∨c=34∨c=39):=by
   rintro (h | h | h)
   ·rw [h] at h3;simp at h3
   ·rw [h] at h4;simp at h4
   ·rw [h] at h5;simp at h5
  cases h6:((c.toNat:Int)==120) with
  | false =>
   have HE:Hid (escapedF (c::r)=none):=Lib.hid (by
    have n6:c≠120:=fun h=>by rw [h] at h6;simp at h6
    simp only [escapedF,n1,n2,n3,n6,if_false])
   clear n1 n2 n3
   go_enter Tryz.func128,Tryz.ntmps128
   go_wp2
   go_ret2
   exact ⟨by rw [HE.out];rfl,Below.refl _ _⟩
  | true =>
  have n6:=byte_is (d:=120) h6
  match r,HL,HSZ with
  | [],HL,HSZ =>
   have HE:Hid (escapedF [c]=none):=Lib.hid (by simp only [escapedF,n1,n2,n3,if_false];simp [n6])
   have hlt:s.size=1:=HSZ.out
   clear n1 n2 n3 n6
   go_enter Tryz.func128,Tryz.ntmps128
   go_wp2
   go_ret2
   exact ⟨by rw [HE.out];rfl,Below.refl _ _⟩
  | [a],HL,HSZ =>
   have HE:Hid (escapedF [c,a]=none):=Lib.hid (by simp only [escapedF,n1,n2,n3,if_false];simp [n6])
   have hlt:s.size=2:=HSZ.out
   clear n1 n2 n3 n6
   go_enter Tryz.func128,Tryz.ntmps128
   go_wp2
   go_ret2
   exact ⟨by rw [HE.out];rfl,Below.refl _ _⟩
  | a::b::r,HL,HSZ =>
   have HE:Hid (escapedF (c::a::b::r)=if hexB a&&hexB b then some (UInt8.ofNat (16*hexV a+hexV b),3) else none):=Lib.hid (by simp only [escapedF,n1,n2,n3,if_false];simp [n6])
   have hlt:3≤s.size:=by rw [HSZ.out];simp
   have hx:(s.extract 1 3).data.toList=[a,b]:=by rw [extract_list,HL.out];rfl
   have HT:=Lib.hid (Tryz.strings_Trim (s.extract 1 3) hexSet w (by rw [ByteArray.size_extract];omega) (by decide) hexSet_ascii)
   have HX:=Lib.hid hx
   have htr:=trim_two a b
   rw [hx] at HT
   generalize Lib.trimS [a,b] hexSet.data.toList=z at HT htr
   clear n1 n2 n3 n6 hx
   cases hab:(hexB a&&hexB b) with
   | false =>
    have hz:(⟨z.toArray⟩:ByteArray).toList.isEmpty=false:=by
     rw [ByteArray.toList_eq]
     cases z with
     | nil=>have:=htr.1 rfl;rw [hab] at this;cases this
     | cons u z=>rfl
    rw [hab] at HE
    generalize (⟨z.toArray⟩:ByteArray)=zz at HT hz
    clear htr hab
    go_enter Tryz.func128,Tryz.ntmps128
    go_wp2_with fail
    refine HT.out.mono ?_
    rintro e w1 ⟨rfl,hb⟩
    have HB:=Lib.hid hb
    clear hb
    go_wp2
    go_ret2
    exact ⟨by rw [HE.out];rfl,HB.out⟩
   | true =>
    have hz:(⟨z.toArray⟩:ByteArray).toList.isEmpty=true:=by
     rw [ByteArray.toList_eq,htr.2 hab]
     rfl
    rw [hab] at HE
    have hq:16*hexV a+hexV b<256:=by
     have:=hab
     simp only [Bool.and_eq_true] at this
     rcases hexB_cases this.1 with ⟨_,_,h⟩ | ⟨_,_,h,_⟩ <;> rcases hexB_cases this.2 with ⟨_,_,h'⟩ | ⟨_,_,h',_⟩ <;> omega
    have HP:=Lib.hid (fun w9=>pub16_calls w9 (s.extract 1 3) a b HX.out (by simp only [Bool.and_eq_true] at hab;exact hab.1) (by simp only [Bool.and_eq_true] at hab;exact hab.2))
    generalize (⟨z.toArray⟩:ByteArray)=zz at HT hz
    generalize 16*hexV a+hexV b=q at HE HP hq
    have hqi:(q:Int)<256:=by omega
    have HQ:=Lib.hid (byte_u8 q hq)
    clear htr hab hq
    go_enter Tryz.func128,Tryz.ntmps128
    go_wp2_with fail
    refine HT.out.mono ?_
    rintro e w1 ⟨rfl,hb⟩
    have HB:=Lib.hid hb
    clear hb
    go_wp2_with fail
    refine (HP.out w1).mono ?_
    rintro e w2 ⟨rfl,hb⟩
    have HB2:=Lib.hid (HB.out.trans (hb.mono HB.out.size))
    clear hb
    go_wp2
    go_ret2
    exact ⟨by rw [HE.out];show _=Ending.returned (.tuple #[.int .u8 (UInt8.ofNat q).toNat,.int .i64 3]);rw [HQ.out];rfl,HB2.out⟩
end
section
open Go.RowKit Go.Sort
def quoOut (r:Option (List UInt8 × Nat)):Ending:=match r with
 | none => .returned (.tuple #[.string ⟨#[]⟩,.int .i64 0])
 | some p => .returned (.tuple #[.string ⟨p.1.toArray⟩,.int .i64 (p.2+1:Nat)])
def QAt (c:UInt8) (r l acc:List UInt8) (k:Nat):Prop:=acc.length≤k ∧ ∃ f,(l.drop k).length≤f∧quotedF c r.length r=(quotedF c f (l.drop k)).map fun p=>(acc++p.1,p.2+(k-1))
theorem QAt.start (c:UInt8) (r:List UInt8):QAt c r (c::r) [] 1:=by
 refine ⟨by simp,r.length,by simp,?_⟩
 simp
theorem QAt.over {c:UInt8} {r l acc:List UInt8} {k:Nat} (h:QAt c r l acc k) (hk:l.length≤k):quotedF c r.length r=none:=by
 obtain ⟨_,f,_,h⟩:=h
 rw [List.drop_eq_nil_of_le hk] at h
 rw [h]
 cases f <;> rfl
section
variable {c b:UInt8} {r l acc:List UInt8} {k:Nat}
theorem QAt.at_ (h:QAt c r l acc k) (hk:l[k]? = some b):acc.length≤k ∧ ∃ f,(l.drop (k+1)).length≤f∧quotedF c r.length r=(quotedF c (f+1) (b::l.drop (k+1))).map fun p=>(acc++p.1,p.2+(k-1)):=by
 obtain ⟨h0,f,hf,h⟩:=h
 have hlt:k<l.length:=(List.getElem?_eq_some_iff.1 hk).1
 have hd:l.drop k=b::l.drop (k+1):=by
  rw [List.drop_eq_getElem_cons hlt]
  congr 1
  rw [List.getElem?_eq_getElem hlt] at hk
  exact Option.some.inj hk
 rw [hd] at hf h
 simp only [List.length_cons] at hf
 obtain ⟨f,rfl⟩ : ∃ g,f=g+1:=⟨f-1,by omega⟩
 exact ⟨h0,f,by omega,h⟩
theorem QAt.close (h:QAt c r l acc k) (hk:l[k]? = some b) (hb:b=c) (h1:1≤k):quotedF c r.length r=some (acc,k):=by
 obtain ⟨_,f,_,h⟩:=h.at_ hk
 rw [h]
 simp only [quotedF,if_pos hb,Option.map_some,List.append_nil]
 congr 2
 omega
theorem QAt.bad (h:QAt c r l acc k) (hk:l[k]? = some b) (hb:b≠c) (h1:b=92) (he:escapedF (l.drop (k+1))=none):quotedF c r.length r=none:=by
 obtain ⟨_,f,_,h⟩:=h.at_ hk
 rw [h]
 simp only [quotedF,if_neg hb,if_pos h1,he,Option.map_none]
theorem QAt.esc (h:QAt c r l acc k) (hk:l[k]? = some b) (hb:b≠c) (h1:b=92) {x:UInt8} {m:Nat} (he:escapedF (l.drop (k+1))=some (x,m)) (hk1:1≤k):QAt c r l (acc++[x]) (k+m+1)∧k+m+1≤l.length:=by
 obtain ⟨h0,f,hf,h⟩:=h.at_ hk
 obtain ⟨e1,e2,_⟩:=escaped_le he
 rw [List.length_drop] at e2
 have hlt:k<l.length:=(List.getElem?_eq_some_iff.1 hk).1
 refine ⟨⟨by simp;omega,f,by rw [List.length_drop] at hf ⊢;omega,?_⟩,by omega⟩
 rw [h]
 simp only [quotedF,if_neg hb,if_pos h1,he,List.drop_drop]
 rw [show k+1+m=k+m+1 by omega]
 cases quotedF c f (l.drop (k+m+1)) with
 | none=>rfl
 | some p =>
  simp only [Option.map_some,List.append_assoc,List.cons_append,List.nil_append]
  congr 2
  omega
theorem QAt.far (h:QAt c r l acc k) (hk:l[k]? = some b) (hb:b≠c) (h1:b≠92) (h2:b.toNat<32∨126<b.toNat):quotedF c r.length r=none:=by
 obtain ⟨_,f,_,h⟩:=h.at_ hk
 rw [h]
 simp only [quotedF,if_neg hb,if_neg h1,if_pos h2,Option.map_none]
theorem QAt.plain (h:QAt c r l acc k) (hk:l[k]? = some b) (hb:b≠c) (h1:b≠92) (h2:¬ (b.toNat<32∨126<b.toNat)) (hk1:1≤k):QAt c r l (acc++[b]) (k+1):=by
 obtain ⟨h0,f,hf,h⟩:=h.at_ hk
 refine ⟨by simp;omega,f,hf,?_⟩
 rw [h]
 simp only [quotedF,if_neg hb,if_neg h1,if_neg h2]
 cases quotedF c f (l.drop (k+1)) with
 | none=>rfl
 | some p =>
  simp only [Option.map_some,List.append_assoc,List.cons_append,List.nil_append]
  congr 2
  omega
end
set_option maxRecDepth 100000 in
set_option maxHeartbeats 2000000 in
theorem quoted_calls (w:World) (s:ByteArray) (hs:s.size≤1000000) (c:UInt8) (r:List UInt8) (hl:s.data.toList=c::r) :
  Calls Tryz.prog 102 #[.string s] w fun e w'=>e=quoOut (quotedF c r.length r)∧Below w.heap.size w w':=by
 have HN:=Lib.hid (Bld.new w)
 have hsz:s.size=r.length+1:=by rw [size_len,hl];rfl
 have hpos:0<s.size:=by omega
 have hc0:s[0]=c:=byte_at hpos (by rw [hl];rfl)
 have HL:=Lib.hid hl
 have HSZ:=Lib.hid hsz
 clear hl hsz
 go_enter Tryz.func102,Tryz.ntmps102
 go_wp2
 go_loopw [5] (fun i wr => ∃ (k:Nat) (acc:List UInt8),1≤k∧k≤s.size∧i = .int .i64 k∧Bld w acc wr∧Hid (QAt c r (c::r) acc k)) (fun i _=>s.size-(intOf i).toNat)
 case atStart=>exact ⟨1,[],by omega,by omega,rfl,HN.out,Lib.hid (QAt.start c r)⟩
 case round =>
  obtain ⟨k,acc,hk1,hk,rfl,hb,HQ⟩:=hrel
  have HB:=Lib.hid hb
  clear hb
  by_cases hlt:k<s.size
  ·have hx:=byte_some hlt
   rw [HL.out] at hx
   have hc256:=(s[k]).toNat_lt
   have HX:=Lib.hid hx
   have HAL:Hid (acc.length≤k):=Lib.hid HQ.out.1
   clear hx
   cases h1:((s[k].toNat:Int)==(c.toNat:Int)) with
   | true =>
    have HF:=Lib.hid (HQ.out.close HX.out (byte_is h1) hk1)
    go_wp2_with fail
    refine HB.out.told.mono ?_
    rintro e w3 ⟨rfl,hb3⟩
    have HB3:=Lib.hid hb3
    clear hb3
    go_wp2
    go_ret2
    exact ⟨by rw [HF.out];rfl,HB3.out⟩
   | false =>
   have n1:s[k]≠c:=fun h=>by rw [h] at h1;simp at h1
   cases h2:((s[k].toNat:Int)==92) with
   | true =>
    have e92:=byte_is (d:=92) h2
    have HC:=Lib.hid (escaped_calls wr (s.extract (k+1) s.size) (by rw [ByteArray.size_extract];omega))
    rw [extract_drop,HL.out] at HC
    cases he:escapedF ((c::r).drop (k+1)) with
    | none =>
     have HF:=Lib.hid (HQ.out.bad HX.out n1 e92 he)
     rw [he] at HC
     clear n1 e92 he
     go_wp2_with fail
     refine HC.out.mono ?_
     rintro e w3 ⟨rfl,hb3⟩
     have HB3:=Lib.hid (HB.out.below hb3)
     clear hb3
     simp only [escOut]
     go_wp2
     go_ret2
     exact ⟨by rw [HF.out];rfl,HB3.out.low⟩
    | some p =>
     obtain ⟨x,m⟩:=p
     obtain ⟨hq,hqm⟩:=HQ.out.esc HX.out n1 e92 he hk1
     have hm1:=(escaped_le he).1
     have HQ2:=Lib.hid hq
     have hkm:k+m+1≤s.size:=by rw [HSZ.out];simpa using hqm
     have hmi:((m:Int)==0)=false:=by simp;omega
     have hmj:¬ (m:Int)=0:=by omega
     rw [he] at HC
     clear n1 e92 he hq hqm
     go_wp2_with fail
     refine HC.out.mono ?_
     rintro e w3 ⟨rfl,hb3⟩
     have HB3:=Lib.hid (HB.out.below hb3)
     clear hb3
     simp only [escOut]
     go_wp2_with fail
     refine (HB3.out.byte x (by have:=HAL.out;omega)).mono ?_
     rintro e w4 ⟨rfl,hb4⟩
     have HB4:=Lib.hid hb4
     clear hb4
     go_wp2
     go_roundw
     case rel=>exact ⟨k+m+1,acc++[x],by omega,by omega,by go_num,HB4.out,HQ2⟩
     case measure=>simp [intOf];omega
   | false =>
   have n2:s[k]≠92:=fun h=>by rw [h] at h2;simp at h2
   by_cases h3:(s[k].toNat:Int)<32
   ·have HF:=Lib.hid (HQ.out.far HX.out n1 n2 (.inl (by omega)))
    clear n1 n2
    go_wp2
    go_ret2
    exact ⟨by rw [HF.out];rfl,HB.out.low⟩
   ·by_cases h4:(126:Int)<(s[k].toNat:Int)
    ·have HF:=Lib.hid (HQ.out.far HX.out n1 n2 (.inr (by omega)))
     clear n1 n2
     go_wp2
     go_ret2
     exact ⟨by rw [HF.out];rfl,HB.out.low⟩
    ·have HQ2:=Lib.hid (HQ.out.plain HX.out n1 n2 (by omega) hk1)
     have h3':(32:Int)≤(s[k].toNat:Int):=by omega
     have h4':(s[k].toNat:Int)≤126:=by omega
     clear n1 n2 h3 h4
     go_wp2_with fail
     refine (HB.out.byte s[k] (by have:=HAL.out;omega)).mono ?_
     rintro e w4 ⟨rfl,hb4⟩
     have HB4:=Lib.hid hb4
     clear hb4
     go_wp2
     go_roundw
     case rel=>exact ⟨k+1,acc++[s[k]],by omega,by omega,by go_num,HB4.out,HQ2⟩
     case measure=>simp [intOf];omega
  ·have HF:=Lib.hid (HQ.out.over (by have:=HSZ.out;simp;omega))
   have hkk:k=s.size:=by omega
   subst hkk
   have hdd:decide ((s.size:Int)<(s.size:Int))=false:=by simp
   go_wp2
   go_ret2
   exact ⟨by rw [HF.out];rfl,HB.out.low⟩
end
section
open Go.RowKit Go.Sort
theorem tokF_letter {c:UInt8} {r:List UInt8} (h:letterB c=true):tokenF (c::r)=(⟨if wordB ((c::r).take (namesB (c::r))) then 2 else 1,(c::r).take (namesB (c::r)),0⟩,namesB (c::r),0):=by
 simp only [tokenF,h,if_true]
theorem tokF_digit {c:UInt8} {r:List UInt8} (h:letterB c=false) (h2:digitB8 c=true):tokenF (c::r)=numberF (c::r):=by
 simp only [tokenF,h,h2,if_true,Bool.false_eq_true,if_false]
theorem tokF_quote {c:UInt8} {r:List UInt8} (h:letterB c=false) (h2:digitB8 c=false) (h3:c=34∨c=39):tokenF (c::r)=match quotedF c r.length r with
   | none=>(.zero,0,22)
   | some p=>(⟨4,p.1,0⟩,p.2+1,0):=by
 simp only [tokenF,h,h2,if_pos h3,Bool.false_eq_true,if_false]
 rfl
theorem tokF_sign {c:UInt8} {r:List UInt8} (h:letterB c=false) (h2:digitB8 c=false) (h3:¬ (c=34∨c=39)):tokenF (c::r) =
  if beginsF (c::r) signs5=0 then (if signs1.contains c then (⟨5,(c::r).take 1,0⟩,1,0) else (.zero,0,21)) else (⟨5,(c::r).take (beginsF (c::r) signs5),0⟩,beginsF (c::r) signs5,0):=by
 simp only [tokenF,h,h2,if_neg h3,Bool.false_eq_true,if_false]
set_option maxRecDepth 100000 in
set_option maxHeartbeats 2000000 in
theorem token_calls (w:World) (hlaid:Laid w) (s:ByteArray) (hs:s.size≤1000000) (h0:0<s.size) :
  Calls Tryz.prog 62 #[.string s] w fun e w'=>e=tokOut (tokenF s.data.toList)∧Below w.heap.size w w':=by
 obtain ⟨w0,hw0⟩ : ∃ w0,w.alloc (.cells #[.int .i64 0,.string ⟨#[]⟩,.int .i64 0,.int .i64 0,.bool false] 37)=w0:=⟨_,rfl⟩
 have hb0:Below w.heap.size w w0:=by rw [← hw0];exact (Below.refl _ _).alloc (Nat.le_refl _) _
 have hx0:Blk w0 w.heap.size 37 #[.int .i64 0,.string ⟨#[]⟩,.int .i64 0,.int .i64 0,.bool false]:=by rw [← hw0];exact Blk.new _ _ _
 have HB0:=Lib.hid hb0
 have HX0:=Lib.hid hx0
 have HLD:=Lib.hid (hlaid.below hb0)
 clear hb0 hx0 hlaid
 obtain ⟨c,r,hl⟩ : ∃ c r,s.data.toList=c::r:=by
  cases hl:s.data.toList with
  | nil=>rw [size_len,hl] at h0;simp at h0
  | cons c r=>exact ⟨c,r,rfl⟩
 have hc0:s[0]=c:=byte_at h0 (by rw [hl];rfl)
 have HL:=Lib.hid hl
 rw [hl]
 clear hl
 have hlet:letterI (c.toNat:Int)=letterB c:=rfl
 have hdig:digitI (c.toNat:Int)=digitB8 c:=rfl
 have HS:Hid (∀ w9 v0 v1 v2 v3 v4,Below w0.heap.size w0 w9→Blk w9 w.heap.size 37 #[.int .i64 0,.string ⟨#[]⟩,.int .i64 0,.int .i64 0,.bool false] →
   Below w.heap.size w (((((w9.setCell ⟨w.heap.size,0,none⟩ v0).setCell ⟨w.heap.size,1,none⟩ v1).setCell ⟨w.heap.size,2,none⟩ v2).setCell ⟨w.heap.size,3,none⟩ v3).setCell ⟨w.heap.size,4,none⟩ v4)) :=
  Lib.hid fun w9 v0 v1 v2 v3 v4 hb9 hx9=>HB0.out.trans ((hb9.mono HB0.out.size).trans ((tok_put hx9 v0 v1 v2 v3 v4).2.below (Nat.le_trans HB0.out.size hb9.size) (fun k e=>by omega)))
 cases hL:letterB c with
 | true =>
  rw [hL] at hlet
  have hTF:=tokF_letter (r:=r) hL
  have hnl:=tw_le partB8 (c::r)
  have HNM:=Lib.hid (names_calls w0 s (by unfold maxLen;omega))
  rw [HL.out] at HNM
  unfold namesB at hTF HNM
  generalize ((c::r).takeWhile partB8).length=n at hTF HNM hnl
  have hns:n≤s.size:=by rw [size_len,HL.out];exact hnl
  have HW:=Lib.hid (isWord_calls w0 HLD.out (s.extract 0 n) (by rw [ByteArray.size_extract];unfold maxLen;omega))
  rw [extract_take,HL.out] at HW
  have HT:=Lib.hid (take_bytes s n)
  rw [HL.out] at HT
  cases hw:wordB ((c::r).take n) with
  | true =>
   rw [hw] at hTF HW
   have HTF:=Lib.hid hTF
   clear hTF hw hL hdig hnl
   go_enter Tryz.func62,Tryz.ntmps62
   go_wp2_with (first
    | (go_at_call 88;refine (isLetter_calls _ _).mono ?_;rintro e w' ⟨rfl,rfl⟩)
    | (go_at_call 89;refine HNM.out.mono ?_;rintro e w' ⟨rfl,rfl⟩))
   refine HW.out.mono ?_
   rintro e w9 ⟨rfl,hb9⟩
   have HB9:=Lib.hid hb9
   have HX9:=Lib.hid (HX0.out.keep (hb9.block _ HX0.out.lt))
   clear hb9
   have c0:=HX9.out.cell 0
   have c1:=HX9.out.cell 1
   have c2:=HX9.out.cell 2
   have c3:=HX9.out.cell 3
   have c4:=HX9.out.cell 4
   have f0:=HX9.out.frozen 0
   have f1:=HX9.out.frozen 1
   have f2:=HX9.out.frozen 2
   have f3:=HX9.out.frozen 3
   have f4:=HX9.out.frozen 4
   go_wp2
   refine tok_ret rfl rfl (tok_put HX9.out _ _ _ _ _).1 ⟨by rw [HTF.out,HT.out];rfl,HS.out _ _ _ _ _ _ HB9.out HX9.out⟩
  | false =>
   rw [hw] at hTF HW
   have HTF:=Lib.hid hTF
   clear hTF hw hL hdig hnl
   go_enter Tryz.func62,Tryz.ntmps62
   go_wp2_with (first
    | (go_at_call 88;refine (isLetter_calls _ _).mono ?_;rintro e w' ⟨rfl,rfl⟩)
    | (go_at_call 89;refine HNM.out.mono ?_;rintro e w' ⟨rfl,rfl⟩))
   refine HW.out.mono ?_
   rintro e w9 ⟨rfl,hb9⟩
   have HB9:=Lib.hid hb9
   have HX9:=Lib.hid (HX0.out.keep (hb9.block _ HX0.out.lt))
   clear hb9
   have c0:=HX9.out.cell 0
   have c1:=HX9.out.cell 1
   have c2:=HX9.out.cell 2
   have c3:=HX9.out.cell 3
   have c4:=HX9.out.cell 4
   have f0:=HX9.out.frozen 0
   have f1:=HX9.out.frozen 1
   have f2:=HX9.out.frozen 2
   have f3:=HX9.out.frozen 3
   have f4:=HX9.out.frozen 4
   go_wp2
   refine tok_ret rfl rfl (tok_put HX9.out _ _ _ _ _).1 ⟨by rw [HTF.out,HT.out];rfl,HS.out _ _ _ _ _ _ HB9.out HX9.out⟩
 | false =>
 rw [hL] at hlet
 cases hD:digitB8 c with
 | true =>
  rw [hD] at hdig
  have hTF:=tokF_digit (r:=r) hL hD
  have HNB:=Lib.hid (number_calls w0 s hs h0 (by rw [hc0];exact hD))
  rw [HL.out,← hTF] at HNB
  clear hTF
  generalize tokenF (c::r)=z at HNB ⊢
  obtain ⟨⟨k,u,m⟩,n,e0⟩:=z
  clear hL hD
  go_enter Tryz.func62,Tryz.ntmps62
  go_wp2_with (first
   | (go_at_call 88;refine (isLetter_calls _ _).mono ?_;rintro e w' ⟨rfl,rfl⟩)
   | (go_at_call 100;refine (isDigit_calls _ _).mono ?_;rintro e w' ⟨rfl,rfl⟩))
  refine HNB.out.mono ?_
  rintro e w9 ⟨rfl,hb9⟩
  have HB9:=Lib.hid hb9
  have HX9:=Lib.hid (HX0.out.keep (hb9.block _ HX0.out.lt))
  clear hb9
  have c0:=HX9.out.cell 0
  have c1:=HX9.out.cell 1
  have c2:=HX9.out.cell 2
  have c3:=HX9.out.cell 3
  have c4:=HX9.out.cell 4
  have f0:=HX9.out.frozen 0
  have f1:=HX9.out.frozen 1
  have f2:=HX9.out.frozen 2
  have f3:=HX9.out.frozen 3
  have f4:=HX9.out.frozen 4
  simp only [tokOut,tkVal]
  go_wp2
  refine tok_ret rfl rfl (tok_put HX9.out _ _ _ _ _).1 ⟨rfl,HS.out _ _ _ _ _ _ HB9.out HX9.out⟩
 | false =>
 rw [hD] at hdig
 cases h34:((c.toNat:Int)==34) with
 | true =>
  have hTF:=tokF_quote (r:=r) hL hD (.inl (byte_is (d:=34) h34))
  have HQ:=Lib.hid (quoted_calls w0 s hs c r HL.out)
  cases hq:quotedF c r.length r with
  | none =>
   rw [hq] at hTF HQ
   have HTF:=Lib.hid hTF
   clear hTF hq hL hD
   go_enter Tryz.func62,Tryz.ntmps62
   go_wp2_with (first
    | (go_at_call 88;refine (isLetter_calls _ _).mono ?_;rintro e w' ⟨rfl,rfl⟩)
    | (go_at_call 100;refine (isDigit_calls _ _).mono ?_;rintro e w' ⟨rfl,rfl⟩))
   refine HQ.out.mono ?_
   rintro e w9 ⟨rfl,hb9⟩
   have HB9:=Lib.hid hb9
   have HX9:=Lib.hid (HX0.out.keep (hb9.block _ HX0.out.lt))
   clear hb9
   have c0:=HX9.out.cell 0
   have c1:=HX9.out.cell 1
   have c2:=HX9.out.cell 2
   have c3:=HX9.out.cell 3
   have c4:=HX9.out.cell 4
   have f0:=HX9.out.frozen 0
   have f1:=HX9.out.frozen 1
   have f2:=HX9.out.frozen 2
   have f3:=HX9.out.frozen 3
   have f4:=HX9.out.frozen 4
   simp only [quoOut]
   go_wp2
   refine tok_ret rfl rfl (tok_put HX9.out _ _ _ _ _).1 ⟨by rw [HTF.out];rfl,HS.out _ _ _ _ _ _ HB9.out HX9.out⟩
  | some p =>
   obtain ⟨u,n⟩:=p
   have hn:=(quoted_le (by rw [byte_is (d:=34) h34];decide) hq).2.1
   have hrl:r.length≤1000000:=by have:=congrArg List.length HL.out;rw [← size_len,List.length_cons] at this;omega
   rw [hq] at hTF HQ
   have HTF:=Lib.hid hTF
   have hn1:(((n+1:Nat):Int)==0)=false:=by simp;omega
   have hn2:¬ ((n+1:Nat):Int)=0:=by omega
   clear hTF hq hL hD
   go_enter Tryz.func62,Tryz.ntmps62
   go_wp2_with (first
    | (go_at_call 88;refine (isLetter_calls _ _).mono ?_;rintro e w' ⟨rfl,rfl⟩)
    | (go_at_call 100;refine (isDigit_calls _ _).mono ?_;rintro e w' ⟨rfl,rfl⟩))
   refine HQ.out.mono ?_
   rintro e w9 ⟨rfl,hb9⟩
   have HB9:=Lib.hid hb9
   have HX9:=Lib.hid (HX0.out.keep (hb9.block _ HX0.out.lt))
   clear hb9
   have c0:=HX9.out.cell 0
   have c1:=HX9.out.cell 1
   have c2:=HX9.out.cell 2
   have c3:=HX9.out.cell 3
   have c4:=HX9.out.cell 4
   have f0:=HX9.out.frozen 0
   have f1:=HX9.out.frozen 1
   have f2:=HX9.out.frozen 2
   have f3:=HX9.out.frozen 3
   have f4:=HX9.out.frozen 4
   simp only [quoOut]
   go_wp2
   refine tok_ret rfl rfl (tok_put HX9.out _ _ _ _ _).1 ⟨by rw [HTF.out];rfl,HS.out _ _ _ _ _ _ HB9.out HX9.out⟩
 | false =>
 cases h39:((c.toNat:Int)==39) with
 | true =>
  have hTF:=tokF_quote (r:=r) hL hD (.inr (byte_is (d:=39) h39))
  have HQ:=Lib.hid (quoted_calls w0 s hs c r HL.out)
  cases hq:quotedF c r.length r with
  | none =>
   rw [hq] at hTF HQ
   have HTF:=Lib.hid hTF
   clear hTF hq hL hD
   go_enter Tryz.func62,Tryz.ntmps62
   go_wp2_with (first
    | (go_at_call 88;refine (isLetter_calls _ _).mono ?_;rintro e w' ⟨rfl,rfl⟩)
    | (go_at_call 100;refine (isDigit_calls _ _).mono ?_;rintro e w' ⟨rfl,rfl⟩))
   refine HQ.out.mono ?_
   rintro e w9 ⟨rfl,hb9⟩
   have HB9:=Lib.hid hb9
   have HX9:=Lib.hid (HX0.out.keep (hb9.block _ HX0.out.lt))
   clear hb9
   have c0:=HX9.out.cell 0
   have c1:=HX9.out.cell 1
   have c2:=HX9.out.cell 2
   have c3:=HX9.out.cell 3
   have c4:=HX9.out.cell 4
   have f0:=HX9.out.frozen 0
   have f1:=HX9.out.frozen 1
   have f2:=HX9.out.frozen 2
   have f3:=HX9.out.frozen 3
   have f4:=HX9.out.frozen 4
   simp only [quoOut]
   go_wp2
   refine tok_ret rfl rfl (tok_put HX9.out _ _ _ _ _).1 ⟨by rw [HTF.out];rfl,HS.out _ _ _ _ _ _ HB9.out HX9.out⟩
  | some p =>
   obtain ⟨u,n⟩:=p
   have hn:=(quoted_le (by rw [byte_is (d:=39) h39];decide) hq).2.1
   have hrl:r.length≤1000000:=by have:=congrArg List.length HL.out;rw [← size_len,List.length_cons] at this;omega
   rw [hq] at hTF HQ
   have HTF:=Lib.hid hTF
   have hn1:(((n+1:Nat):Int)==0)=false:=by simp;omega
   have hn2:¬ ((n+1:Nat):Int)=0:=by omega
   clear hTF hq hL hD
   go_enter Tryz.func62,Tryz.ntmps62
   go_wp2_with (first
    | (go_at_call 88;refine (isLetter_calls _ _).mono ?_;rintro e w' ⟨rfl,rfl⟩)
    | (go_at_call 100;refine (isDigit_calls _ _).mono ?_;rintro e w' ⟨rfl,rfl⟩))
   refine HQ.out.mono ?_
   rintro e w9 ⟨rfl,hb9⟩
   have HB9:=Lib.hid hb9
   have HX9:=Lib.hid (HX0.out.keep (hb9.block _ HX0.out.lt))
   clear hb9
   have c0:=HX9.out.cell 0
   have c1:=HX9.out.cell 1
   have c2:=HX9.out.cell 2
   have c3:=HX9.out.cell 3
   have c4:=HX9.out.cell 4
   have f0:=HX9.out.frozen 0
   have f1:=HX9.out.frozen 1
   have f2:=HX9.out.frozen 2
   have f3:=HX9.out.frozen 3
   have f4:=HX9.out.frozen 4
   simp only [quoOut]
   go_wp2
   refine tok_ret rfl rfl (tok_put HX9.out _ _ _ _ _).1 ⟨by rw [HTF.out];rfl,HS.out _ _ _ _ _ _ HB9.out HX9.out⟩
 | false =>
 have hTF:=tokF_sign (r:=r) hL hD (by
  rintro (h | h)
  ·rw [h] at h34;simp at h34
  ·rw [h] at h39;simp at h39)
 have HBG:Hid (∀ w9:World,Calls Tryz.prog 103 #[.string s,.slice (some ⟨w9.heap.size,0,none⟩) 5 5] (w9.alloc (.cells #[.string ⟨#[61,61,61]⟩,.string ⟨#[33,61,61]⟩,.string ⟨#[60,61]⟩,.string ⟨#[38,38]⟩,.string ⟨#[124,124]⟩] 9)) fun e w'=>e = .returned (.int .i64 (beginsF (c::r) signs5:Nat))∧Below w9.heap.size w9 w'):=Lib.hid fun w9=>by
  have:=begins_at w9 s [⟨#[61,61,61]⟩,⟨#[33,61,61]⟩,⟨#[60,61]⟩,⟨#[38,38]⟩,⟨#[124,124]⟩] (by simp)
  rw [HL.out] at this
  exact this
 have HS1:=Lib.hid (Lib.contains_iff_indexByte signs1 c)
 have hge:=Lib.indexByte_ge signs1 c
 have HIB:Hid (∀ w9:World,Calls Tryz.prog 97 #[.string ⟨#[123,125,40,41,91,93,46,59,44,58,63,60,61,33,43,45,42,47]⟩,.int .u8 (c.toNat:Int)] w9 fun e w'=>e = .returned (.int .i64 (Lib.indexByte signs1 c))∧w'=w9):=Lib.hid fun w9=>by
  have:=Tryz.strings_IndexByte ⟨#[123,125,40,41,91,93,46,59,44,58,63,60,61,33,43,45,42,47]⟩ (c.toNat:Int) w9
  rw [show ((c.toNat:Int)).toNat.toUInt8=c by simp] at this
  exact this
 have hbl:beginsF (c::r) signs5≤s.size:=by
  rw [size_len,HL.out]
  by_cases h:beginsF (c::r) signs5=0
  ·omega
  ·obtain ⟨x,_,hp,he⟩:=begins_of h
   rw [he]
   exact (pre_take hp).2
 obtain ⟨n,hn⟩ : ∃ n,beginsF (c::r) signs5=n:=⟨_,rfl⟩
 obtain ⟨q,hq⟩ : ∃ q,Lib.indexByte signs1 c=q:=⟨_,rfl⟩
 rw [hn] at hTF HBG hbl
 rw [hq] at HS1 HIB hge
 have HT:=Lib.hid (take_bytes s)
 rw [HL.out] at HT
 clear hn hq hL hD
 cases hn0:((n:Int)==0) with
 | true =>
  obtain rfl:n=0:=by simp at hn0;omega
  cases hq0:decide (0≤q) with
  | true =>
   rw [hq0] at HS1
   rw [HS1.out] at hTF
   have HTF:=Lib.hid hTF
   clear hTF hn0
   go_enter Tryz.func62,Tryz.ntmps62
   go_wp2_with (first
    | (go_at_call 88;refine (isLetter_calls _ _).mono ?_;rintro e w' ⟨rfl,rfl⟩)
    | (go_at_call 100;refine (isDigit_calls _ _).mono ?_;rintro e w' ⟨rfl,rfl⟩))
   refine (HBG.out _).mono ?_
   rintro e w9 ⟨rfl,hb9⟩
   have HB9:=Lib.hid hb9
   have HX9:=Lib.hid (HX0.out.keep (hb9.block _ HX0.out.lt))
   clear hb9
   have c0:=HX9.out.cell 0
   have c1:=HX9.out.cell 1
   have c2:=HX9.out.cell 2
   have c3:=HX9.out.cell 3
   have c4:=HX9.out.cell 4
   have f0:=HX9.out.frozen 0
   have f1:=HX9.out.frozen 1
   have f2:=HX9.out.frozen 2
   have f3:=HX9.out.frozen 3
   have f4:=HX9.out.frozen 4
   go_wp2_with fail
   refine (HIB.out _).mono ?_
   rintro e w' ⟨rfl,rfl⟩
   go_wp2
   refine tok_ret rfl rfl (tok_put HX9.out _ _ _ _ _).1 ⟨by rw [HTF.out,HT.out 1];rfl,HS.out _ _ _ _ _ _ HB9.out HX9.out⟩
  | false =>
   rw [hq0] at HS1
   rw [HS1.out] at hTF
   have HTF:=Lib.hid hTF
   clear hTF hn0
   go_enter Tryz.func62,Tryz.ntmps62
   go_wp2_with (first
    | (go_at_call 88;refine (isLetter_calls _ _).mono ?_;rintro e w' ⟨rfl,rfl⟩)
    | (go_at_call 100;refine (isDigit_calls _ _).mono ?_;rintro e w' ⟨rfl,rfl⟩))
   refine (HBG.out _).mono ?_
   rintro e w9 ⟨rfl,hb9⟩
   have HB9:=Lib.hid hb9
   have HX9:=Lib.hid (HX0.out.keep (hb9.block _ HX0.out.lt))
   clear hb9
   have c0:=HX9.out.cell 0
   have c1:=HX9.out.cell 1
   have c2:=HX9.out.cell 2
   have c3:=HX9.out.cell 3
   have c4:=HX9.out.cell 4
   have f0:=HX9.out.frozen 0
   have f1:=HX9.out.frozen 1
   have f2:=HX9.out.frozen 2
   have f3:=HX9.out.frozen 3
   have f4:=HX9.out.frozen 4
   go_wp2_with fail
   refine (HIB.out _).mono ?_
   rintro e w' ⟨rfl,rfl⟩
   go_wp2
   refine tok_ret rfl rfl (tok_put HX9.out _ _ _ _ _).1 ⟨by rw [HTF.out];rfl,HS.out _ _ _ _ _ _ HB9.out HX9.out⟩
 | false =>
  have hn1:¬ (n:Int)=0:=by simpa using hn0
  rw [if_neg (by omega)] at hTF
  have HTF:=Lib.hid hTF
  clear hTF
  go_enter Tryz.func62,Tryz.ntmps62
  go_wp2_with (first
   | (go_at_call 88;refine (isLetter_calls _ _).mono ?_;rintro e w' ⟨rfl,rfl⟩)
   | (go_at_call 100;refine (isDigit_calls _ _).mono ?_;rintro e w' ⟨rfl,rfl⟩))
  refine (HBG.out _).mono ?_
  rintro e w9 ⟨rfl,hb9⟩
  have HB9:=Lib.hid hb9
  have HX9:=Lib.hid (HX0.out.keep (hb9.block _ HX0.out.lt))
  clear hb9
  have c0:=HX9.out.cell 0
  have c1:=HX9.out.cell 1
  have c2:=HX9.out.cell 2
  have c3:=HX9.out.cell 3
  have c4:=HX9.out.cell 4
  have f0:=HX9.out.frozen 0
  have f1:=HX9.out.frozen 1
  have f2:=HX9.out.frozen 2
  have f3:=HX9.out.frozen 3
  have f4:=HX9.out.frozen 4
  go_wp2
  refine tok_ret rfl rfl (tok_put HX9.out _ _ _ _ _).1 ⟨by rw [HTF.out,HT.out n];rfl,HS.out _ _ _ _ _ _ HB9.out HX9.out⟩
end
end Go.Proofs.YtjjdmiaonkailaaGreatDoor
