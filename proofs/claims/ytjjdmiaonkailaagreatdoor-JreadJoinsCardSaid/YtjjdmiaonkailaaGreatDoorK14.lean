/- Walks and plain laws, packed: RlexD, TrU. -/
import Derived.Test.YtjjdmiaonkailaaGreatDoorK12
import Derived.Test.YtjjdmiaonkailaaGreatDoorK13
import Derived.Test.YtjjdmiaonkailaaGreatDoorK01
import Derived.Test.YtjjdmiaonkailaaGreatDoorK04
import Derived.Test.YtjjdmiaonkailaaGreatDoorK02
import Derived.Laws.AppendOwn
import Derived.OwnWalk
import Derived.Deep.AppendLies
namespace Go.Proofs.YtjjdmiaonkailaaGreatDoor
section
open Go.RowKit Go.Sort
def rtokF (c:UInt8) (r:List UInt8):Option (Tk × Nat) :=
 if letterB c then some (⟨if wordB ((c::r).take (namesB (c::r))) then 2 else 1,(c::r).take (namesB (c::r)),0⟩,namesB (c::r))
 else if digitB8 c then
  (if namesB (c::r)=((c::r).takeWhile digitB8).length∧((c::r).takeWhile digitB8).length≤15∧¬ (1<((c::r).takeWhile digitB8).length∧c=48)∧[46].isPrefixOf ((c::r).drop ((c::r).takeWhile digitB8).length)=false then
   some (⟨3,[],numV ((c::r).take ((c::r).takeWhile digitB8).length)⟩,((c::r).takeWhile digitB8).length) else none)
 else if c=34∨c=39 then none
 else if beginsF (c::r) signs5=0∧signs7.contains c=true then some (⟨5,[c],0⟩,1) else none
def rlexB:Nat→List UInt8→Nat→Bool→Option (List Tl)
 | 0,_,_,_=>none
 | _+1,[],_,_=>some []
 | f+1,c::r,line,nl =>
  if spacesL.contains c then rlexB f r (line+if c=10 then 1 else 0) (nl||(c==10))
  else if darkB (c::r) then
   match rtokF c r with
   | some (t,k)=>(rlexB f ((c::r).drop k) line false).map (⟨t,line,nl⟩ :: ·)
   | none=>none
  else none
theorem names_pos {c:UInt8} {r:List UInt8} (h:letterB c=true):0<namesB (c::r):=by
 have:partB8 c=true:=by
  unfold partB8
  rw [show letterI (c.toNat:Int)=letterB c from rfl,h]
  rfl
 simp [namesB,this]
theorem rtokF_pos {c:UInt8} {r:List UInt8} {t:Tk} {k:Nat} (h:rtokF c r=some (t,k)):0<k∧k≤(c::r).length:=by
 unfold rtokF at h
 split at h
 ·rename_i hl
  injection h with h
  injection h with _ h
  rw [← h]
  exact ⟨names_pos hl,tw_leR (p:=partB8) (c::r)⟩
 ·split at h
  ·rename_i hd
   split at h
   ·injection h with h
    injection h with _ h
    rw [← h]
    exact ⟨by simp [hd],tw_leR (p:=digitB8) (c::r)⟩
   ·cases h
  ·split at h
   ·cases h
   ·split at h
    ·injection h with h
     injection h with _ h
     rw [← h]
     simp
    ·cases h
theorem rone_calls (w:World) (s:ByteArray) (c:UInt8) (r:List UInt8) (hl:s.data.toList=c::r) (hm:s.size≤65536) (t:Tk) (k:Nat) (h:rtokF c r=some (t,k)):Calls Tryz.prog 25 #[.string s] w fun e w'=>e = .returned (.tuple #[tkVal t 0 false,.int .i64 k,.int .i64 0])∧Below w.heap.size w w':=by
 unfold rtokF at h
 split at h
 ·rename_i hL
  injection h with h
  injection h with h1 h2
  refine (rone_letter w s c r hl hm hL).mono ?_
  rintro e w' ⟨rfl,hb⟩
  rw [hl,tokF_letter hL]
  refine ⟨?_,hb⟩
  unfold tokOut
  rw [← h1,← h2]
 ·rename_i hL
  have hL':letterB c=false:=by simpa using hL
  split at h
  ·rename_i hd
   split at h
   ·rename_i hc
    injection h with h
    injection h with h1 h2
    rw [← h1,← h2]
    exact rone_digit w s c r hl hm hL' hd _ rfl hc.1 hc.2.1 hc.2.2.1 hc.2.2.2
   ·cases h
  ·rename_i hd
   have hd':digitB8 c=false:=by simpa using hd
   split at h
   ·cases h
   ·rename_i hq
    split at h
    ·rename_i hc
     injection h with h
     injection h with h1 h2
     rw [← h1,← h2]
     exact rone_sign w s c r hl hm hL' hd' hq hc.1 hc.2
    ·cases h
theorem rlexB_space {f:Nat} {c:UInt8} {r:List UInt8} {line:Nat} {nl:Bool} {l2:List Tl} (h:rlexB f (c::r) line nl=some l2) (hs:spacesL.contains c=true) : ∃ g,rlexB g r (line+if c=10 then 1 else 0) (nl||(c==10))=some l2:=by
 cases f with
 | zero=>cases h
 | succ f =>
  rw [rlexB,if_pos hs] at h
  exact ⟨f,h⟩
theorem rlexB_tok {f:Nat} {c:UInt8} {r:List UInt8} {line:Nat} {nl:Bool} {l2:List Tl} (h:rlexB f (c::r) line nl=some l2) (hs:spacesL.contains c=false):darkB (c::r)=true ∧ ∃ t k l3 g,rtokF c r=some (t,k)∧l2=⟨t,line,nl⟩::l3∧rlexB g ((c::r).drop k) line false=some l3:=by
 cases f with
 | zero=>cases h
 | succ f =>
  rw [rlexB,if_neg (by rw [hs];decide)] at h
  split at h
  ·rename_i hd
   refine ⟨hd,?_⟩
   cases ht:rtokF c r with
   | none=>rw [ht] at h;cases h
   | some p =>
    obtain ⟨t,k⟩:=p
    rw [ht] at h
    simp only [Option.map_eq_some_iff] at h
    obtain ⟨l3,h1,h2⟩:=h
    exact ⟨t,k,l3,f,rfl,h2.symm,h1⟩
  ·cases h
theorem rlexB_nil {f:Nat} {line:Nat} {nl:Bool} {l2:List Tl} (h:rlexB f [] line nl=some l2):l2=[]:=by
 cases f with
 | zero=>cases h
 | succ f =>
  rw [rlexB] at h
  injection h with h
  exact h.symm
def RlexI (w:World) (s:ByteArray) (l:List Tl) (k line:Nat) (nl:Bool) (p:List Tl) (A:Option Addr) (cap:Nat) (wr:World):Prop :=
 (k≤s.size∧line≤k+1)∧wr.ownsRow w.heap.size 37 5 (.slice A p.length cap) p.length (tlCells p)∧Below w.heap.size w wr ∧ ∃ f l2,rlexB f (s.data.toList.drop k) line nl=some l2∧l=p++l2
set_option maxRecDepth 100000 in
set_option maxHeartbeats 2000000 in
theorem rlex_calls (w:World) (s:ByteArray) (hm:s.size≤65536) (f0:Nat) (l:List Tl) (hl:rlexB f0 s.data.toList 1 false=some l) (hlen:l.length≤20000):Calls Tryz.prog 10 #[.string s] w fun e w' =>
  ∃ A cap,e = .returned (.tuple #[.slice A l.length cap,.int .i64 0,.int .i64 0])∧w'.ownsRow w.heap.size 37 5 (.slice A l.length cap) l.length (tlCells l)∧Below w.heap.size w w':=by
 have HL:=Lib.hid hl
 clear hl
 go_enter Tryz.func10,Tryz.ntmps10
 go_wp2
 go_loopw [5,6,7,8,9,10,11,12,13] (fun o ln b i _ _ _ _ _ wr => ∃ (k line:Nat) (nl:Bool) (p:List Tl) (A:Option Addr) (cap:Nat),o = .slice A p.length cap∧ln = .int .i64 line∧b = .bool nl∧i = .int .i64 k∧Hid (RlexI w s l k line nl p A cap wr)) (fun _ _ _ i _ _ _ _ _ _=>65537-(intOf i).toNat)
 case atStart=>exact ⟨0,1,false,[],none,0,rfl,rfl,rfl,rfl,Lib.hid ⟨⟨by omega,by omega⟩,World.ownsRow_nil _ _ _ _,Below.refl _ _,f0,l,HL.out,rfl⟩⟩
 case round =>
  obtain ⟨k,line,nl,p,A,cap,rfl,rfl,rfl,rfl,HI⟩:=hrel
  obtain ⟨⟨hk,hline⟩,hown,hbel,f,l2,hl2,hle⟩:=HI.out
  have HOWN:=Lib.hid hown
  have HBEL:=Lib.hid hbel
  have HL2:=Lib.hid hl2
  have HLE:=Lib.hid hle
  clear HI hown hbel hl2 hle
  by_cases hlt:k<s.size
  ·obtain ⟨c,r,hcr⟩ : ∃ c r,s.data.toList.drop k=c::r:=by
    cases h:s.data.toList.drop k with
    | nil =>
     have:=congrArg List.length h
     rw [List.length_drop,← size_len] at this
     simp only [List.length_nil] at this
     omega
    | cons c r=>exact ⟨c,r,rfl⟩
   have HCR:Hid ((s.extract k s.size).data.toList=c::r):=Lib.hid (by rw [extract_drop];exact hcr)
   have hsz:r.length+1+k=s.size:=by
    have:=congrArg List.length hcr
    rw [List.length_drop,← size_len] at this
    simp only [List.length_cons] at this
    omega
   have hdr:s.data.toList.drop (k+1)=r:=by
    rw [← List.drop_drop,hcr]
    rfl
   have HDR:=Lib.hid hdr
   have hck:(s[k]'hlt)=c:=by
    have hb:s.data.toList[k]? = some (s[k]'hlt):=byte_some hlt
    rw [← List.head?_drop,hcr] at hb
    exact (Option.some.inj hb).symm
   rw [hcr] at HL2
   have HDK:Hid (∀ n,s.data.toList.drop (k+n)=(c::r).drop n):=Lib.hid fun n=>by rw [← List.drop_drop,hcr]
   clear hcr hdr
   cases hsp:spacesL.contains c with
   | true =>
    have HBL:=Lib.hid (fun w9=>rblank1_calls w9 (s.extract k s.size) c (by rw [HCR.out];rfl) hsp)
    have HNX:=Lib.hid (rlexB_space HL2.out hsp)
    have h10:(((c.toNat:Nat):Int)==10)=(c==10):=u8_lit (n:=10) (by decide)
    have hcc:(c=10)=((c==10)=true):=by simp
    have HNX2:Hid (∀ b,(c==10)=b → ∃ g,rlexB g r (line+if b then 1 else 0) (nl||b)=some l2):=Lib.hid fun b hb=>by
     have:=HNX.out
     simp only [hcc,hb] at this
     exact this
    clear hsp HNX hcc
    go_wp2_with (go_at_call 24;refine (HBL.out _).mono ?_;rintro e w' ⟨rfl,rfl⟩)
    obtain ⟨wb,hwb⟩ : ∃ z,z=wr:=⟨_,rfl⟩
    have HWB:=Lib.hid hwb
    rw [← hwb] at HOWN HBEL ⊢
    clear hwb
    go_loopw [6,7,10] (fun ln b i wi => ∃ j:Nat,j≤1∧i = .int .i64 (k+j:Nat)∧ln = .int .i64 (line+(if j=1∧(c==10)=true then 1 else 0):Nat)∧b = .bool (nl||(decide (j=1)&&(c==10)))∧wi=wb) (fun _ _ i _=>k+2-(intOf i).toNat)
    case atStart=>exact ⟨0,by omega,by simp,by simp,by simp,rfl⟩
    case round =>
     obtain ⟨j,hj,rfl,rfl,rfl,rfl⟩:=hrel
     by_cases hj1:j=1
     ·obtain rfl:=hj1
      obtain ⟨q,hq⟩ : ∃ q,(c==10)=q:=⟨_,rfl⟩
      have HN3:=Lib.hid (HNX2.out q hq)
      rw [hq]
      clear hq h10 HNX2
      obtain ⟨ln2,hln2⟩ : ∃ z,line+(if 1=1∧q=true then 1 else 0)=z:=⟨_,rfl⟩
      obtain ⟨nl2,hnl2⟩ : ∃ z,(nl||(decide (1=1)&&q))=z:=⟨_,rfl⟩
      have HLN:Hid (ln2=line+(if q then 1 else 0)∧nl2=(nl||q)):=Lib.hid ⟨by rw [← hln2];simp,by rw [← hnl2];simp⟩
      rw [hln2,hnl2]
      clear hln2 hnl2
      have HKK:Hid (ln2≤k+1+1):=Lib.hid (by rw [HLN.out.1];split <;> omega)
      go_wp2
      go_roundw
      case rel =>
       obtain ⟨g,hg⟩:=HN3.out
       exact ⟨k+1,ln2,nl2,p,A,cap,rfl,rfl,rfl,by go_num,Lib.hid ⟨⟨by omega,HKK.out⟩,HOWN.out,HBEL.out,g,l2,by rw [HDR.out,HLN.out.1,HLN.out.2];exact hg,HLE.out⟩⟩
      case measure=>simp [intOf];omega
     ·obtain rfl:j=0:=by omega
      cases hq:(c==10) with
      | true =>
       rw [hq] at h10
       go_wp2
       go_roundw
       case rel=>exact ⟨1,by omega,by go_num,by simp,by simp,by trivial⟩
       case measure=>simp [intOf]
      | false =>
       rw [hq] at h10
       go_wp2
       go_roundw
       case rel=>exact ⟨1,by omega,by go_num,by simp,by simp,by trivial⟩
       case measure=>simp [intOf]
   | false =>
    have HT:=Lib.hid (rlexB_tok HL2.out hsp)
    have HBL:=Lib.hid (fun w9=>rblank0_calls w9 (s.extract k s.size) c r HCR.out HT.out.1)
    obtain ⟨t,n,l3,g,ht,hl3,hg⟩:=HT.out.2
    have HG:=Lib.hid hg
    have HON:=Lib.hid (fun w9=>rone_calls w9 (s.extract k s.size) c r HCR.out (by rw [ByteArray.size_extract];omega) t n ht)
    clear HT hsp hg
    go_wp2_with (go_at_call 24;refine (HBL.out _).mono ?_;rintro e w' ⟨rfl,rfl⟩)
    obtain ⟨wb,hwb⟩ : ∃ z,z=wr:=⟨_,rfl⟩
    rw [← hwb] at HOWN HBEL ⊢
    clear hwb
    go_loopw [6,7,10] (fun ln b i wi=>i = .int .i64 k∧ln = .int .i64 line∧b = .bool nl∧wi=wb) (fun _ _ _ _=>1)
    case atStart=>exact ⟨rfl,rfl,rfl,rfl⟩
    case round =>
     obtain ⟨rfl,rfl,rfl,rfl⟩:=hrel
     go_wp2_with fail
     refine (HON.out _).mono ?_
     rintro e w9 ⟨rfl,hb9⟩
     unfold tkVal
     obtain ⟨i0,hi,hz0,hz1,hz2⟩:=info_parts info_tok
     have hpl:p.length<20000:=by
      have:=congrArg List.length HLE.out
      rw [hl3,List.length_append,List.length_cons] at this
      omega
     have hne:((p.length:Int)==20000)=false:=by simp;omega
     have HB9:=Lib.hid hb9
     have HL3:=Lib.hid hl3
     have hgt:=hb9.size
     have hwr:=HBEL.out.size
     clear hb9 hl3
     go_wp2_with (at_builtin;refine wpList_append_lies _ rfl _ _ 23 rfl w.heap.size 37 i0 _ 5 48 Tryz.underlying23 hi hz0 hz1 hz2 rfl (by decide) (.slice A p.length cap) p.length (tlCells p) rfl ?own ⟨w9.heap.size+1,0,none⟩ 1 1 [.int .i64 t.kind,.string ⟨t.s.toArray⟩,.int .i64 t.n,.int .i64 line,.bool nl] rfl rfl ?news (by simp [Value.oneCell']) (by decide) (by simp only [maxLen];omega) (by omega) (by simp;omega) (w9.heap.size+1+1) (by simp) ?_)
     case own=>exact ((own_keep HOWN.out fun q hq=>HB9.out.block _ (HOWN.out.lt q hq).2).alloc _).alloc _
     case news=>exact World.news_of_block (cs:=#[.int .i64 t.kind,.string ⟨t.s.toArray⟩,.int .i64 t.n,.int .i64 line,.bool nl]) (t:=37) (fr:=(0,0)) (by
      have h:=Blk.new (w9.alloc (.cells #[.int .i64 t.kind,.string ⟨t.s.toArray⟩,.int .i64 t.n,.int .i64 line,.bool nl] 37)) 37 #[.int .i64 t.kind,.string ⟨t.s.toArray⟩,.int .i64 t.n,.int .i64 line,.bool nl]
      rw [World.size_alloc] at h
      exact h)
     intro g2 cap1 w1 hown1 hgrow hat hlt1
     have hbl1:Below w.heap.size w w1:=Below.grown (((HBEL.out.trans (HB9.out.mono hwr)).alloc (Nat.le_trans hwr hgt) (.cells #[.int .i64 t.kind,.string ⟨t.s.toArray⟩,.int .i64 t.n,.int .i64 line,.bool nl] 37)).alloc (by rw [World.size_alloc];omega) (.cells #[.int .i64 t.kind,.string ⟨t.s.toArray⟩,.int .i64 t.n,.int .i64 line,.bool nl] 37)) hgrow (by rw [World.size_alloc,World.size_alloc];omega) (fun q hq=>(HOWN.out.lt q hq).1)
     have hap:tlCells p++[.int .i64 t.kind,.string ⟨t.s.toArray⟩,.int .i64 t.n,.int .i64 line,.bool nl]=tlCells (p++[⟨t,line,nl⟩]):=by
      rw [tlCells_append]
      simp [tlCells,tlCells1]
     rw [hap] at hown1
     have hrp:=rtokF_pos ht
     have hkn:n≤r.length+1:=by simpa using hrp.2
     have hn0:=hrp.1
     have HNX:Hid (RlexI w s l (k+n) line false (p++[⟨t,line,nl⟩]) (some ⟨g2,0,none⟩) cap1 w1):=Lib.hid ⟨⟨by omega,by omega⟩,by rw [List.length_append];exact hown1,hbl1,_,l3,by rw [HDK.out];exact HG.out,by rw [HLE.out,HL3.out,List.append_assoc];rfl⟩
     clear hap hown1 hgrow hat hlt1 hbl1 hrp ht
     go_wp2_with fail
     go_roundw
     case rel=>exact ⟨k+n,line,false,p++[⟨t,line,nl⟩],some ⟨g2,0,none⟩,cap1,by rw [List.length_append];rfl,rfl,rfl,by go_num,HNX⟩
     case measure=>simp [intOf];omega
  ·obtain rfl:k=s.size:=by omega
   have hdd:¬ (s.size:Int)<(s.size:Int):=by omega
   have HFIN:Hid (p=l):=Lib.hid (by
    have h1:=HL2.out
    rw [List.drop_eq_nil_of_le (by rw [size_len];omega)] at h1
    have h2:=HLE.out
    rw [rlexB_nil h1,List.append_nil] at h2
    exact h2.symm)
   go_wp2
   refine bodyPost_ret (results_tmp3 rfl _ _ _) rfl ?_
   refine ⟨A,cap,by rw [← HFIN.out];rfl,?_,HBEL.out⟩
   rw [← HFIN.out]
   exact HOWN.out
end
section
open Go.RowKit
def TrP (Bk:Nat→Prop) (W:World):Nat→List Tree→Value→Prop
 | 0,l,v=>l=[] ∧ ∃ A c,v = .slice A 0 c
 | d+1,l,v=>l.length≤maxLen ∧ ∃ A c,v = .slice A l.length c ∧ ∀ (k:Nat) (t:Tree),l[k]? = some t → ∃ a sl,A=some a∧(Bk a.block∧a.block<W.heap.size∧l.length≤c)∧t.ok ∧
   W.cell? (a.add (k*5))=some (.int .i64 t.op)∧W.cell? ((a.add (k*5)).add 1)=some (.string t.s)∧W.cell? ((a.add (k*5)).add 2)=some (.int .i64 t.n)∧W.cell? ((a.add (k*5)).add 3)=some sl∧W.cell? ((a.add (k*5)).add 4)=some (.int .i64 t.line)∧TrP Bk W d t.l sl
variable {B:Nat} {Bk:Nat→Prop} {W W':World}
theorem TrP.kids : ∀ {d:Nat} {l:List Tree} {v:Value},TrP Bk W d l v→Kids W d l v
 | 0,_,_,h=>h
 | d+1,l,v,h=>by
  obtain ⟨hl,A,c,rfl,h⟩:=h
  refine ⟨hl,A,c,rfl,fun k t hk => ?_⟩
  obtain ⟨a,sl,rfl,hab,hs,c0,c1,c2,c3,c4,hk'⟩:=h k t hk
  exact ⟨a,sl,rfl,⟨hab.2.1,hab.2.2⟩,hs,c0,c1,c2,c3,c4,hk'.kids⟩
theorem TrP.turn (hb : ∀ k,Bk k→k<W.heap.size→W'.heap[k]? = W.heap[k]?) (hsz:W.heap.size≤W'.heap.size) : ∀ {d:Nat} {l:List Tree} {v:Value},TrP Bk W d l v→TrP Bk W' d l v
 | 0,_,_,h=>h
 | d+1,l,v,h=>by
  obtain ⟨hl,A,c,rfl,h⟩:=h
  refine ⟨hl,A,c,rfl,fun k t hk => ?_⟩
  obtain ⟨a,sl,rfl,hab,hs,c0,c1,c2,c3,c4,hk'⟩:=h k t hk
  have hbl : ∀ (x:Addr) j,(x.add j).block=x.block:=fun x j=>by unfold Addr.add;split <;> rfl
  have e : ∀ p:Addr,p.block=a.block→W'.cell? p=W.cell? p:=fun p hp=>World.cell?_of_block (by rw [hp];exact hb _ hab.1 hab.2.1)
  refine ⟨a,sl,rfl,⟨hab.1,Nat.lt_of_lt_of_le hab.2.1 hsz,hab.2.2⟩,hs,(e _ (hbl _ _)).trans c0,(e _ (by rw [hbl,hbl])).trans c1,(e _ (by rw [hbl,hbl])).trans c2,(e _ (by rw [hbl,hbl])).trans c3,(e _ (by rw [hbl,hbl])).trans c4,hk'.turn hb hsz⟩
theorem TrP.mono : ∀ {d d':Nat} {l:List Tree} {v:Value},d≤d'→TrP Bk W d l v→TrP Bk W d' l v
 | 0,0,_,_,_,h=>h
 | 0,d'+1,l,v,_,h=>by
  obtain ⟨rfl,A,c,rfl⟩:=h
  exact ⟨Nat.zero_le _,A,c,rfl,fun k t hk=>by simp at hk⟩
 | d+1,0,_,_,h,_=>by omega
 | d+1,d'+1,l,v,hd,h=>by
  obtain ⟨hl,A,c,rfl,h⟩:=h
  refine ⟨hl,A,c,rfl,fun k t hk => ?_⟩
  obtain ⟨a,sl,rfl,hab,hs,c0,c1,c2,c3,c4,hk'⟩:=h k t hk
  exact ⟨a,sl,rfl,hab,hs,c0,c1,c2,c3,c4,hk'.mono (by omega)⟩
theorem TrP.nil (d:Nat) (A:Option Addr) (c:Nat):TrP Bk W d [] (.slice A 0 c):=TrP.mono (d:=0) (Nat.zero_le _) ⟨rfl,A,c,rfl⟩
theorem TrP.form {d:Nat} {l:List Tree} {v:Value} (h:TrP Bk W d l v) : ∃ A c,v = .slice A l.length c:=by
 cases d with
 | zero=>obtain ⟨rfl,A,c,rfl⟩:=h;exact ⟨A,c,rfl⟩
 | succ d=>obtain ⟨_,A,c,rfl,_⟩:=h;exact ⟨A,c,rfl⟩
theorem TrP.weaken {Bk':Nat→Prop} (hB : ∀ k,k<W.heap.size→Bk k→Bk' k) : ∀ {d:Nat} {l:List Tree} {v:Value},TrP Bk W d l v→TrP Bk' W d l v
 | 0,_,_,h=>h
 | d+1,l,v,h=>by
  obtain ⟨hl,A,c,rfl,h⟩:=h
  refine ⟨hl,A,c,rfl,fun k t hk => ?_⟩
  obtain ⟨a,sl,rfl,hab,hs,c0,c1,c2,c3,c4,hk'⟩:=h k t hk
  exact ⟨a,sl,rfl,⟨hB _ hab.2.1 hab.1,hab.2⟩,hs,c0,c1,c2,c3,c4,hk'.weaken hB⟩
abbrev TrU (B:Nat) (W:World):Nat→List Tree→Value→Prop:=TrP (fun k=>B≤k) W
theorem TrU.turn (hb : ∀ k,B≤k→k<W.heap.size→W'.heap[k]? = W.heap[k]?) (hsz:W.heap.size≤W'.heap.size) {d:Nat} {l:List Tree} {v:Value} (h:TrU B W d l v):TrU B W' d l v:=TrP.turn hb hsz h
theorem TrU.nil (d:Nat) (A:Option Addr) (c:Nat):TrU B W d [] (.slice A 0 c):=TrP.nil d A c
theorem TrU.form {d:Nat} {l:List Tree} {v:Value} (h:TrU B W d l v) : ∃ A c,v = .slice A l.length c:=TrP.form h
theorem TrU.kids {d:Nat} {l:List Tree} {v:Value} (h:TrU B W d l v):Kids W d l v:=TrP.kids h
theorem TrU.mono {d d':Nat} {l:List Tree} {v:Value} (hd:d≤d') (h:TrU B W d l v):TrU B W d' l v:=TrP.mono hd h
theorem TrU.weaken {B':Nat} (hB:B'≤B) {d:Nat} {l:List Tree} {v:Value} (h:TrU B W d l v):TrU B' W d l v:=TrP.weaken (fun _ _ hk=>Nat.le_trans hB hk) h
def TV (B:Nat) (W:World) (t:Tree) (v:Value):Prop:=t.ok ∧ ∃ d sl,v = .agg #[.int .i64 t.op,.string t.s,.int .i64 t.n,sl,.int .i64 t.line]∧TrU B W d t.l sl
theorem TV.turn {t:Tree} {v:Value} (h:TV B W t v) (hb : ∀ k,B≤k→k<W.heap.size→W'.heap[k]? = W.heap[k]?) (hsz:W.heap.size≤W'.heap.size):TV B W' t v:=by
 obtain ⟨h1,d,sl,h2,h3⟩:=h
 exact ⟨h1,d,sl,h2,h3.turn hb hsz⟩
def nodeCells (t:Tree) (sl:Value):List Value:=[.int .i64 t.op,.string t.s,.int .i64 t.n,sl,.int .i64 t.line]
def flatN (l:List (Tree × Value)):List Value:=l.flatMap fun p=>nodeCells p.1 p.2
theorem flatN_len : ∀ l:List (Tree × Value),(flatN l).length=5*l.length
 | []=>rfl
 | p::l=>by
  have h:=flatN_len l
  have e:flatN (p::l)=nodeCells p.1 p.2++flatN l:=by simp [flatN]
  rw [e,List.length_append,h,List.length_cons]
  simp only [nodeCells,List.length_cons,List.length_nil]
  omega
theorem flatN_at : ∀ {l:List (Tree × Value)} {k:Nat} {p:Tree × Value} (j:Nat),l[k]? = some p→j<5→(flatN l)[k*5+j]? = (nodeCells p.1 p.2)[j]?
 | [],k,p,j,h,_=>by simp at h
 | q::l,0,p,j,h,hj=>by
  simp only [List.getElem?_cons_zero,Option.some.injEq] at h
  subst h
  simp only [flatN,List.flatMap_cons,Nat.zero_mul,Nat.zero_add]
  rw [List.getElem?_append_left (by simpa [nodeCells] using hj)]
 | q::l,k+1,p,j,h,hj=>by
  have ih:=flatN_at (l:=l) (k:=k) (p:=p) j (by simpa using h) hj
  unfold flatN at ih ⊢
  rw [List.flatMap_cons,List.getElem?_append_right (by simp [nodeCells];omega)]
  rw [show (k+1)*5+j-(nodeCells q.1 q.2).length=k*5+j by simp [nodeCells];omega]
  exact ih
theorem flatN_snoc (l:List (Tree × Value)) (p:Tree × Value):flatN (l++[p])=flatN l++nodeCells p.1 p.2:=by simp [flatN]
theorem parts_depth : ∀ {l:List (Tree × Value)},(∀ p,p ∈ l → ∃ d,TrP Bk W d p.1.l p.2) → ∃ d,∀ p,p ∈ l→TrP Bk W d p.1.l p.2
 | [],_=>⟨0,fun p hp=>by simp at hp⟩
 | q::l,h=>by
  obtain ⟨d,hd⟩:=parts_depth (l:=l) fun p hp=>h p (by simp [hp])
  obtain ⟨d',hd'⟩:=h q (by simp)
  refine ⟨max d d',fun p hp => ?_⟩
  rcases List.mem_cons.1 hp with rfl | hp
  ·exact hd'.mono (Nat.le_max_right _ _)
  ·exact (hd p hp).mono (Nat.le_max_left _ _)
theorem add0 (g o j:Nat):(⟨g,o,none⟩:Addr).add j=⟨g,o+j,none⟩:=by
 unfold Addr.add
 split
 ·rename_i h
  first
   | (subst h;rfl)
   | (have:j=0:=by simpa using h
      subst this;rfl)
 ·rfl
theorem TrP.of_cells {l:List (Tree × Value)} {g c:Nat} (hg:Bk g∧g<W.heap.size) (hlen:l.length≤maxLen) (hc:l.length≤c) (hcell : ∀ i,i<5*l.length→W.cell? ⟨g,i,none⟩=(flatN l)[i]?)
  (hp : ∀ p,p ∈ l→p.1.ok ∧ ∃ d,TrP Bk W d p.1.l p.2) : ∃ d,TrP Bk W d (l.map Prod.fst) (.slice (some ⟨g,0,none⟩) l.length c):=by
 obtain ⟨d,hd⟩:=parts_depth fun p h=>(hp p h).2
 refine ⟨d+1,by simpa using hlen,some ⟨g,0,none⟩,c,by simp,fun k t hk => ?_⟩
 rw [List.getElem?_map] at hk
 cases hq:l[k]? with
 | none=>rw [hq] at hk;cases hk
 | some p =>
  rw [hq] at hk
  obtain rfl:p.1=t:=by simpa using hk
  have hkl:k<l.length:=(List.getElem?_eq_some_iff.1 hq).1
  have hm:=List.mem_of_getElem? hq
  have e : ∀ j,j<5→W.cell? ⟨g,k*5+j,none⟩=(nodeCells p.1 p.2)[j]? := fun j hj=>by rw [hcell _ (by omega),flatN_at j hq hj]
  refine ⟨⟨g,0,none⟩,p.2,rfl,⟨hg.1,hg.2,by simpa using hc⟩,(hp p hm).1,?_,?_,?_,?_,?_,hd p hm⟩
  ·rw [add0,Nat.zero_add];exact e 0 (by omega)
  ·rw [add0,add0,Nat.zero_add];exact e 1 (by omega)
  ·rw [add0,add0,Nat.zero_add];exact e 2 (by omega)
  ·rw [add0,add0,Nat.zero_add];exact e 3 (by omega)
  ·rw [add0,add0,Nat.zero_add];exact e 4 (by omega)
theorem TrU.of_cells {l:List (Tree × Value)} {g c:Nat} (hg:B≤g∧g<W.heap.size) (hlen:l.length≤maxLen) (hc:l.length≤c) (hcell : ∀ i,i<5*l.length→W.cell? ⟨g,i,none⟩=(flatN l)[i]?)
  (hp : ∀ p,p ∈ l→p.1.ok ∧ ∃ d,TrU B W d p.1.l p.2) : ∃ d,TrU B W d (l.map Prod.fst) (.slice (some ⟨g,0,none⟩) l.length c):=TrP.of_cells hg hlen hc hcell hp
def RowT (B:Nat) (W:World) (acc:List Tree) (v:Value):Prop :=
 ∃ l:List (Tree × Value),l.map Prod.fst=acc∧W.ownsRow B 29 5 v l.length (flatN l) ∧ ∀ p,p ∈ l→p.1.ok ∧ ∃ d,TrP (fun k=>B≤k∧v.ownBlock≠some k) W d p.1.l p.2
theorem RowT.nil:RowT B W [] (.slice none 0 0):=⟨[],rfl,World.ownsRow_nil _ _ _ _,fun p hp=>by simp at hp⟩
theorem RowT.turn {acc:List Tree} {v:Value} (h:RowT B W acc v) (hb : ∀ k,B≤k→k<W.heap.size→W'.heap[k]? = W.heap[k]?) (hsz:W.heap.size≤W'.heap.size):RowT B W' acc v:=by
 obtain ⟨l,h1,h2,h3⟩:=h
 refine ⟨l,h1,own_keep h2 fun g hg=>hb g (h2.lt g hg).1 (h2.lt g hg).2,fun p hp => ?_⟩
 obtain ⟨h4,d,h5⟩:=h3 p hp
 exact ⟨h4,d,h5.turn (fun k hk=>hb k hk.1) hsz⟩
theorem RowT.trees {acc:List Tree} {v:Value} (h:RowT B W acc v) (hl:acc.length≤maxLen) : ∃ d,TrU B W d acc v:=by
 obtain ⟨l,rfl,h2,h3⟩:=h
 have h3' : ∀ p,p ∈ l→p.1.ok ∧ ∃ d,TrU B W d p.1.l p.2:=fun p hp=>by
  obtain ⟨h4,d,h5⟩:=h3 p hp
  exact ⟨h4,d,h5.weaken (fun _ _ hk=>hk.1)⟩
 cases hl0:l with
 | nil =>
  subst hl0
  obtain ⟨A,c,rfl⟩:=own_slice h2
  exact ⟨0,TrU.nil 0 A c⟩
 | cons p r =>
  rw [← hl0]
  obtain ⟨g,cap,hv,hg,hc⟩:=World.ownsRow.form h2 (by rw [hl0];simp)
  subst hv
  have hlt:=h2.lt g rfl
  have hcap:l.length≤cap:=by
   rcases h2.2 with ⟨h4,_⟩ | ⟨g2,cap2,cur,h4,_,_,h5⟩
   ·cases h4
   ·injection h4 with h4 h6 h7
    subst h7
    omega
  rw [List.length_map] at hl
  exact TrU.of_cells hlt hl hcap (fun i hi=>World.ownsRow.cellAt h2 i (by omega)) h3'
theorem TV.weaken {B':Nat} (hB:B'≤B) {t:Tree} {v:Value} (h:TV B W t v):TV B' W t v:=by
 obtain ⟨h1,d,sl,h2,h3⟩:=h
 exact ⟨h1,d,sl,h2,h3.weaken hB⟩
theorem RowT.weaken {B':Nat} (hB:B'≤B) {acc:List Tree} {v:Value} (h:RowT B W acc v):RowT B' W acc v:=by
 obtain ⟨l,h1,h2,h3⟩:=h
 refine ⟨l,h1,own_mono h2 fun g hg=>Nat.le_trans hB (h2.lt g hg).1,fun p hp => ?_⟩
 obtain ⟨h4,d,h5⟩:=h3 p hp
 exact ⟨h4,d,h5.weaken (fun _ _ hk=>⟨Nat.le_trans hB hk.1,hk.2⟩)⟩
structure Keep (B:Nat) (W W':World):Prop where
 blk : ∀ k,B≤k→k<W.heap.size→W'.heap[k]? = W.heap[k]?
 size:W.heap.size≤W'.heap.size
theorem Keep.refl (B:Nat) (W:World):Keep B W W:=⟨fun _ _ _=>rfl,Nat.le_refl _⟩
theorem Keep.trans {B B':Nat} {a b c:World} (h:Keep B a b) (k:Keep B' b c) (hB:B'≤B):Keep B a c :=
 ⟨fun i hi hs=>(k.blk i (Nat.le_trans hB hi) (Nat.lt_of_lt_of_le hs h.size)).trans (h.blk i hi hs),Nat.le_trans h.size k.size⟩
theorem Keep.below {B:Nat} {a b:World} (h:Below a.heap.size a b):Keep B a b:=⟨fun i _ hs=>h.block i hs,h.size⟩
theorem Keep.turn {B rb:Nat} {a b:World} (h:Turn (fun k=>k=rb) a b) (hB:rb<B):Keep B a b:=⟨fun i hi hs=>h.block i hs (by omega),h.size⟩
theorem Keep.alloc (B:Nat) (w:World) (o:Obj):Keep B w (w.alloc o):=Keep.below ((Below.refl _ _).alloc (Nat.le_refl _) o)
theorem Keep.setCell {B:Nat} (w:World) {p:Addr} (hp:p.block<B) (u:Value):Keep B w (w.setCell p u):=⟨fun i hi _=>Below.heap_setCell _ _ _ _ (by omega),by simp [World.setCell]⟩
theorem Keep.drew (B:Nat) (w:World):Keep B w w.drew:=⟨fun _ _ _=>rfl,Nat.le_refl _⟩
theorem Keep.tv {B B':Nat} {W W':World} {t:Tree} {v:Value} (h:Keep B W W') (k:TV B' W t v) (hB:B≤B'):TV B' W' t v:=k.turn (fun i hi hs=>h.blk i (Nat.le_trans hB hi) hs) h.size
theorem Keep.row {B B':Nat} {W W':World} {acc:List Tree} {v:Value} (h:Keep B W W') (k:RowT B' W acc v) (hB:B≤B'):RowT B' W' acc v:=k.turn (fun i hi hs=>h.blk i (Nat.le_trans hB hi) hs) h.size
theorem TrP.lt {d:Nat} {l:List Tree} {v:Value} (h:TrP Bk W d l v):TrP (fun k=>Bk k∧k<W.heap.size) W d l v:=h.weaken fun _ hlt hk=>⟨hk,hlt⟩
theorem flatN_append (l m:List (Tree × Value)):flatN (l++m)=flatN l++flatN m:=by simp [flatN]
theorem RowT.appended {w':World} {v:Value} {l l2:List (Tree × Value)} {g cap:Nat} (hp : ∀ p,p ∈ l++l2→p.1.ok ∧ ∃ d,TrP (fun k=>B≤k∧v.ownBlock≠some k) W d p.1.l p.2)
  (h1:w'.ownsRow B 29 5 (.slice (some ⟨g,0,none⟩) (l.length+l2.length) cap) (l.length+l2.length) (flatN l++flatN l2)) (h2:W.grownBy w' v.ownBlock) (h3:v.ownBlock=some g∨g=W.heap.size) :
  RowT B w' (l.map Prod.fst++l2.map Prod.fst) (.slice (some ⟨g,0,none⟩) (l.length+l2.length) cap):=by
 refine ⟨l++l2,by simp,by rw [List.length_append,flatN_append];exact h1,fun p hm => ?_⟩
 obtain ⟨h4,d,h5⟩:=hp p hm
 have h6:TrP (fun k=>(B≤k∧v.ownBlock≠some k)∧k<W.heap.size) w' d p.1.l p.2:=h5.lt.turn (fun k hk hs=>h2.block k hs (fun e=>hk.1.2 e.symm)) h2.size
 refine ⟨h4,d,h6.weaken fun k _ hk=>⟨hk.1.1,fun e => ?_⟩⟩
 have e:g=k:=by simpa [Value.ownBlock] using e
 subst e
 rcases h3 with h3 | h3
 ·exact hk.1.2 h3
 ·omega
theorem flatN_oneCell (l:List (Tree × Value)) (h : ∀ p,p ∈ l→p.2.oneCell'=true) : ∀ u ∈ flatN l,u.oneCell'=true:=by
 intro u hu
 obtain ⟨p,hp,hu⟩:=List.mem_flatMap.1 hu
 simp only [nodeCells,List.mem_cons,List.not_mem_nil,or_false] at hu
 rcases hu with rfl | rfl | rfl | rfl | rfl
 ·rfl
 ·rfl
 ·rfl
 ·exact h p hp
 ·rfl
theorem TrP.one {d:Nat} {l:List Tree} {v:Value} (h:TrP Bk W d l v):v.oneCell'=true:=by
 obtain ⟨A,c,rfl⟩:=h.form
 rfl
theorem node_info:(Tryz.prog.info? 29).map (fun i=>(i.zero,i.size,i.bytes))=some (some (.agg #[.int .i64 0,.string ⟨#[]⟩,.int .i64 0,.slice none 0 0,.int .i64 0]),5,64):=by kernel_rfl
theorem wpList_append_row {ops:Array Oper} {rest:List Oper} {o:Oper} {a:Act} {Q:Exit→Act→World→Prop} (hgd:o.guard=none) (s x:Operand)
  (ho:o.op = .call { callee := .builtin .append,args:=#[s,x],argTypes:=#[27,27] })
  {acc:List Tree} {v:Value} (hs:a.eval s=v) (hr:RowT B W acc v) (l2:List (Tree × Value)) (ad:Addr) (m c:Nat) (hx:a.eval x = .slice (some ad) m c) (hm:m=l2.length) (hnews : ∀ j u,(flatN l2)[j]? = some u→W.cell? (ad.add j)=some u)
  (hp : ∀ p,p ∈ l2→p.1.ok ∧ ∃ d,TrP (fun k=>B≤k∧v.ownBlock≠some k) W d p.1.l p.2) (hm0:0<l2.length) (hlen:acc.length+l2.length≤1000000) (hbase:B≤W.heap.size)
  (h : ∀ g cap w',RowT B w' (acc++l2.map Prod.fst) (.slice (some ⟨g,0,none⟩) (acc.length+m) cap)→W.grownBy w' v.ownBlock→(v.ownBlock=some g∨g=W.heap.size)→g<w'.heap.size→wpList Tryz.prog ops Q rest (a.put o.dst (.slice (some ⟨g,0,none⟩) (acc.length+m) cap)) w'):wpList Tryz.prog ops Q (o::rest) a W:=by
 subst hm
 obtain ⟨l,rfl,hown,hpl⟩:=hr
 obtain ⟨i0,hi0,hz0,hz1,hz2⟩:=info_parts node_info
 rw [List.length_map] at hlen h
 refine wpList_append_lies W hgd s x 27 ho B 29 i0 _ 5 64 Tryz.underlying27 hi0 hz0 hz1 hz2 rfl (by omega) v l.length (flatN l) hs hown ad l2.length c (flatN l2) hx (by rw [flatN_len];omega) hnews (flatN_oneCell l2 fun p hm=>by obtain ⟨_,d,hd⟩:=hp p hm;exact hd.one) hm0 (by simp only [maxLen];omega) (by omega) hbase W.heap.size rfl ?_
 intro g cap w' h1 h2 h3 h4
 exact h g cap w' (RowT.appended (fun p hq=>(List.mem_append.1 hq).elim (hpl p) (hp p)) h1 h2 h3) h2 h3 h4
theorem step_append_row {ops:Array Oper} {o:Oper} {a:Act} {K:Act→World→Prop} {Q:Exit→Act→World→Prop} {E:Prop} (hgd:o.guard=none) (s x:Operand)
  (ho:o.op = .call { callee := .builtin .append,args:=#[s,x],argTypes:=#[27,27] })
  {acc:List Tree} {v:Value} (hs:a.eval s=v) (hr:RowT B W acc v) (l2:List (Tree × Value)) (ad:Addr) (m c:Nat) (hx:a.eval x = .slice (some ad) m c) (hm:m=l2.length) (hnews : ∀ j u,(flatN l2)[j]? = some u→W.cell? (ad.add j)=some u)
  (hp : ∀ p,p ∈ l2→p.1.ok ∧ ∃ d,TrP (fun k=>B≤k∧v.ownBlock≠some k) W d p.1.l p.2) (hm0:0<l2.length) (hlen:acc.length+l2.length≤1000000) (hbase:B≤W.heap.size)
  (h : ∀ g cap w',RowT B w' (acc++l2.map Prod.fst) (.slice (some ⟨g,0,none⟩) (acc.length+m) cap)→W.grownBy w' v.ownBlock→(v.ownBlock=some g∨g=W.heap.size)→g<w'.heap.size→K (a.put o.dst (.slice (some ⟨g,0,none⟩) (acc.length+m) cap)) w') :
  if Region.wanted o (yielded ops a.tmps)=true then Oper.wp Tryz.prog o a W K Q else E:=by
 subst hm
 obtain ⟨l,rfl,hown,hpl⟩:=hr
 obtain ⟨i0,hi0,hz0,hz1,hz2⟩:=info_parts node_info
 rw [List.length_map] at hlen h
 refine step_append_lies W hgd s x 27 ho B 29 i0 _ 5 64 Tryz.underlying27 hi0 hz0 hz1 hz2 rfl (by omega) v l.length (flatN l) hs hown ad l2.length c (flatN l2) hx (by rw [flatN_len];omega) hnews (flatN_oneCell l2 fun p hm=>by obtain ⟨_,d,hd⟩:=hp p hm;exact hd.one) hm0 (by simp only [maxLen];omega) (by omega) hbase W.heap.size rfl ?_
 intro g cap w' h1 h2 h3 h4
 exact h g cap w' (RowT.appended (fun p hq=>(List.mem_append.1 hq).elim (hpl p) (hp p)) h1 h2 h3) h2 h3 h4
theorem RowT.form {acc:List Tree} {v:Value} (h:RowT B W acc v) : ∃ A c,v = .slice A acc.length c:=by
 obtain ⟨l,rfl,h2,_⟩:=h
 obtain ⟨A,c,rfl⟩:=own_slice h2
 exact ⟨A,c,by simp⟩
theorem RowT.made {l:List (Tree × Value)} {g:Nat} (hB:B≤g) (hlen:l.length≤maxLen) (hb:W.heap[g]? = some (.cells (flatN l).toArray 29 (0,0))) (hp : ∀ p,p ∈ l→p.1.ok ∧ ∃ d,TrP (fun k=>B≤k∧g≠k) W d p.1.l p.2):RowT B W (l.map Prod.fst) (.slice (some ⟨g,0,none⟩) l.length l.length):=by
 refine ⟨l,rfl,⟨by rw [flatN_len];omega,.inr ⟨g,l.length,_,rfl,hB,hb,Nat.le_refl _,hlen,by simp [flatN_len];omega,?_⟩⟩,fun p hm => ?_⟩
 ·simp only []
  rw [List.take_of_length_le (by rw [flatN_len];omega)]
 ·obtain ⟨h1,d,h2⟩:=hp p hm
  exact ⟨h1,d,h2.weaken fun k _ hk=>⟨hk.1,fun e=>hk.2 (by simpa [Value.ownBlock] using e)⟩⟩
end
end Go.Proofs.YtjjdmiaonkailaaGreatDoor
