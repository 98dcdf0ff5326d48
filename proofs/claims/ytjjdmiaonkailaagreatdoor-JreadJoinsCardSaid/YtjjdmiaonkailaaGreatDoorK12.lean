/- Walks and plain laws, packed: RlexC, LexI. -/
import Derived.Test.YtjjdmiaonkailaaGreatDoorK10
import Derived.Test.YtjjdmiaonkailaaGreatDoorK11
import Derived.Test.YtjjdmiaonkailaaGreatDoorK09
import Derived.Sort.LoopGhostIn
import Derived.Shelf.Abstract
import Derived.Shelf.RegionOpen
namespace Go.Proofs.YtjjdmiaonkailaaGreatDoor
section
open Go.RowKit Go.Sort
theorem head_pos {s:ByteArray} {c:UInt8} (hc:s.data.toList.head? = some c):0<s.size:=by
 rw [size_len]
 cases h:s.data.toList with
 | nil=>rw [h] at hc;cases hc
 | cons _ _=>simp
theorem head_at {s:ByteArray} {c:UInt8} (hc:s.data.toList.head? = some c) (hpos:0<s.size):(s[0]'hpos)=c:=by
 have hb:s.data.toList[0]? = some (s[0]'hpos):=byte_some hpos
 rw [← List.head?_eq_getElem?,hc] at hb
 exact (Option.some.inj hb).symm
theorem u8_lit {c:UInt8} {n:Nat} (hn:n<256):(((c.toNat:Nat):Int)==(n:Int))=(c==UInt8.ofNat n):=by
 rw [Bool.eq_iff_iff,beq_iff_eq,beq_iff_eq]
 constructor
 ·intro h
  exact UInt8.toNat_inj.1 (by rw [UInt8.toNat_ofNat'];omega)
 ·intro h
  rw [h,UInt8.toNat_ofNat']
  omega
set_option maxRecDepth 100000 in
set_option maxHeartbeats 1000000 in
theorem rblank1_calls (w:World) (s:ByteArray) (c:UInt8) (hc:s.data.toList.head? = some c) (hin:spacesL.contains c=true):Calls Tryz.prog 24 #[.string s] w fun e w'=>e = .returned (.int .i64 1)∧w=w':=by
 have hpos:=head_pos hc
 have HK:Hid ((s[0]'hpos)=c):=Lib.hid (head_at hc hpos)
 have hmem:c ∈ spacesL:=List.contains_iff_mem.1 hin
 clear hin hc
 simp only [spacesL,List.mem_cons,List.not_mem_nil,or_false] at hmem
 rcases hmem with hmem | hmem | hmem | hmem
 ·have hv:((s[0]'hpos).toNat:Int)=32:=by rw [HK.out,hmem];rfl
  clear hmem HK
  go_enter Tryz.func24,Tryz.ntmps24
  go_wp2
  go_ret
  exact ⟨rfl,rfl⟩
 ·have hv:((s[0]'hpos).toNat:Int)=9:=by rw [HK.out,hmem];rfl
  clear hmem HK
  go_enter Tryz.func24,Tryz.ntmps24
  go_wp2
  go_ret
  exact ⟨rfl,rfl⟩
 ·have hv:((s[0]'hpos).toNat:Int)=13:=by rw [HK.out,hmem];rfl
  clear hmem HK
  go_enter Tryz.func24,Tryz.ntmps24
  go_wp2
  go_ret
  exact ⟨rfl,rfl⟩
 ·have hv:((s[0]'hpos).toNat:Int)=10:=by rw [HK.out,hmem];rfl
  clear hmem HK
  go_enter Tryz.func24,Tryz.ntmps24
  go_wp2
  go_ret
  exact ⟨rfl,rfl⟩
def darkB (s:List UInt8):Bool := !spacesL.contains (s.headD 32)&&(!(s.headD 32==47)||match s with
 | _::d::_ => !(d==47) && !(d==42)
 | _=>true)
set_option maxRecDepth 100000 in
set_option maxHeartbeats 1000000 in
theorem rblank0_calls (w:World) (s:ByteArray) (c:UInt8) (r:List UInt8) (hl:s.data.toList=c::r) (hd:darkB (c::r)=true):Calls Tryz.prog 24 #[.string s] w fun e w'=>e = .returned (.int .i64 0)∧w=w':=by
 have hc:s.data.toList.head? = some c:=by rw [hl];rfl
 have hpos:=head_pos hc
 have h0:(s[0]'hpos)=c:=head_at hc hpos
 have hsz:s.size=r.length+1:=by rw [size_len,hl];rfl
 unfold darkB at hd
 simp only [List.headD_cons,Bool.and_eq_true,Bool.not_eq_true'] at hd
 obtain ⟨hsp,hd⟩:=hd
 have HN:Hid (∀ n:Nat,n<256→spacesL.contains (UInt8.ofNat n)=true→(((s[0]'hpos).toNat:Int)==(n:Int))=false):=Lib.hid fun n hn hc=>by
  rw [h0,u8_lit hn,beq_eq_false_iff_ne]
  intro e
  rw [← e,hsp] at hc
  cases hc
 have g1:(((s[0]'hpos).toNat:Int)==32)=false:=HN.out 32 (by decide) (by decide)
 have g2:(((s[0]'hpos).toNat:Int)==9)=false:=HN.out 9 (by decide) (by decide)
 have g3:(((s[0]'hpos).toNat:Int)==13)=false:=HN.out 13 (by decide) (by decide)
 have g4:(((s[0]'hpos).toNat:Int)==10)=false:=HN.out 10 (by decide) (by decide)
 clear HN hsp
 by_cases h2:s.size<2
 ·have h2i:(s.size:Int)<2:=by omega
  clear hd h0 hl hc hsz
  go_enter Tryz.func24,Tryz.ntmps24
  go_wp2
  go_ret
  exact ⟨rfl,rfl⟩
 ·have h2i:¬ (s.size:Int)<2:=by omega
  have h1:1<s.size:=by omega
  cases h47:(c==47) with
  | false =>
   have g5:(((s[0]'hpos).toNat:Int) != 47)=true:=by
    rw [bne,h0,show ((47:Int)=((47:Nat):Int)) from rfl,u8_lit (by decide)]
    rw [show UInt8.ofNat 47=47 from rfl,h47]
    rfl
   clear hd h0 hl hc hsz h47
   go_enter Tryz.func24,Tryz.ntmps24
   go_wp2
   go_ret
   exact ⟨rfl,rfl⟩
  | true =>
   rw [h47] at hd
   cases r with
   | nil=>simp at hsz;omega
   | cons d r =>
    simp only [Bool.not_true,Bool.false_or,Bool.and_eq_true,Bool.not_eq_true'] at hd
    have hd1:(s[1]'h1)=d:=by
     have hb:s.data.toList[1]? = some (s[1]'h1):=byte_some h1
     rw [hl] at hb
     exact (Option.some.inj hb).symm
    have g5:(((s[0]'hpos).toNat:Int) != 47)=false:=by
     rw [bne,h0,show ((47:Int)=((47:Nat):Int)) from rfl,u8_lit (by decide)]
     rw [show UInt8.ofNat 47=47 from rfl,h47]
     rfl
    have g6:(((s[1]'h1).toNat:Int) != 47)=true:=by
     rw [bne,hd1,show ((47:Int)=((47:Nat):Int)) from rfl,u8_lit (by decide)]
     rw [show UInt8.ofNat 47=47 from rfl,hd.1]
     rfl
    have g7:(((s[1]'h1).toNat:Int) != 42)=true:=by
     rw [bne,hd1,show ((42:Int)=((42:Nat):Int)) from rfl,u8_lit (by decide)]
     rw [show UInt8.ofNat 42=42 from rfl,hd.2]
     rfl
    clear hd h0 hl hc hsz h47 hd1
    go_enter Tryz.func24,Tryz.ntmps24
    go_wp2
    go_ret
    exact ⟨rfl,rfl⟩
set_option maxRecDepth 100000 in
set_option maxHeartbeats 2000000 in
theorem rone_letter (w:World) (s:ByteArray) (c:UInt8) (r:List UInt8) (hl:s.data.toList=c::r) (hm:s.size≤65536) (hL:letterB c=true):Calls Tryz.prog 25 #[.string s] w fun e w'=>e=tokOut (tokenF s.data.toList)∧Below w.heap.size w w':=by
 obtain ⟨w0,hw0⟩ : ∃ w0,w.alloc (.cells #[.int .i64 0,.string ⟨#[]⟩,.int .i64 0,.int .i64 0,.bool false] 37)=w0:=⟨_,rfl⟩
 have hb0:Below w.heap.size w w0:=by rw [← hw0];exact (Below.refl _ _).alloc (Nat.le_refl _) _
 have hx0:Blk w0 w.heap.size 37 #[.int .i64 0,.string ⟨#[]⟩,.int .i64 0,.int .i64 0,.bool false]:=by rw [← hw0];exact Blk.new _ _ _
 have HX0:=Lib.hid hx0
 have HS:Hid (∀ v0 v1 v2 v3 v4,Below w.heap.size w (((((w0.setCell ⟨w.heap.size,0,none⟩ v0).setCell ⟨w.heap.size,1,none⟩ v1).setCell ⟨w.heap.size,2,none⟩ v2).setCell ⟨w.heap.size,3,none⟩ v3).setCell ⟨w.heap.size,4,none⟩ v4)) :=
  Lib.hid fun v0 v1 v2 v3 v4=>hb0.trans ((tok_put hx0 v0 v1 v2 v3 v4).2.below hb0.size (fun k e=>by omega))
 have c0:=HX0.out.cell 0
 have c1:=HX0.out.cell 1
 have c2:=HX0.out.cell 2
 have c3:=HX0.out.cell 3
 have c4:=HX0.out.cell 4
 have f0:=HX0.out.frozen 0
 have f1:=HX0.out.frozen 1
 have f2:=HX0.out.frozen 2
 have f3:=HX0.out.frozen 3
 have f4:=HX0.out.frozen 4
 clear hb0 hx0
 have h0:0<s.size:=head_pos (c:=c) (by rw [hl];rfl)
 have hc0:s[0]=c:=byte_at h0 (by rw [hl];rfl)
 have HL:=Lib.hid hl
 rw [hl]
 clear hl
 have hlet:letterI (c.toNat:Int)=true:=hL
 have HTF:=tokF_letter (r:=r) hL
 have hnl:=tw_leR (p:=partB8) (c::r)
 have HNM:=Lib.hid (rrun_calls w0 s true hm)
 rw [HL.out,show runP true=partB8 from rfl] at HNM
 unfold namesB at HTF
 generalize ((c::r).takeWhile partB8).length=n at HTF HNM hnl
 have hns:n≤s.size:=by rw [size_len,HL.out];exact hnl
 have HW:=Lib.hid (risWord_calls w0 (s.extract 0 n))
 rw [extract_take,HL.out] at HW
 have HT:=Lib.hid (take_bytes s n)
 rw [HL.out] at HT
 have hTF:=Lib.hid HTF
 clear hL hnl HTF
 cases hw:wordB ((c::r).take n) with
 | true =>
  rw [hw] at HW hTF
  clear hw
  go_enter Tryz.func25,Tryz.ntmps25
  go_wp2_with (first
   | (go_at_call 40;refine (rletter_calls _ _).mono ?_;rintro e w' ⟨rfl,rfl⟩)
   | (go_at_call 41;refine HNM.out.mono ?_;rintro e w' ⟨rfl,rfl⟩)
   | (go_at_call 42;refine HW.out.mono ?_;rintro e w' ⟨rfl,rfl⟩))
  refine tok_ret rfl rfl (tok_put HX0.out _ _ _ _ _).1 ⟨by rw [hTF.out,HT.out];rfl,HS.out _ _ _ _ _⟩
 | false =>
  rw [hw] at HW hTF
  clear hw
  go_enter Tryz.func25,Tryz.ntmps25
  go_wp2_with (first
   | (go_at_call 40;refine (rletter_calls _ _).mono ?_;rintro e w' ⟨rfl,rfl⟩)
   | (go_at_call 41;refine HNM.out.mono ?_;rintro e w' ⟨rfl,rfl⟩)
   | (go_at_call 42;refine HW.out.mono ?_;rintro e w' ⟨rfl,rfl⟩))
  refine tok_ret rfl rfl (tok_put HX0.out _ _ _ _ _).1 ⟨by rw [hTF.out,HT.out];rfl,HS.out _ _ _ _ _⟩
set_option maxRecDepth 100000 in
set_option maxHeartbeats 2000000 in
theorem rone_sign (w:World) (s:ByteArray) (c:UInt8) (r:List UInt8) (hl:s.data.toList=c::r) (hm:s.size≤65536) (hL:letterB c=false) (hD:digitB8 c=false) (h3:¬ (c=34∨c=39)) (hb:beginsF (c::r) signs5=0) (hin:signs7.contains c=true):Calls Tryz.prog 25 #[.string s] w fun e w'=>e = .returned (.tuple #[tkVal ⟨5,[c],0⟩ 0 false,.int .i64 1,.int .i64 0])∧Below w.heap.size w w':=by
 obtain ⟨w0,hw0⟩ : ∃ w0,w.alloc (.cells #[.int .i64 0,.string ⟨#[]⟩,.int .i64 0,.int .i64 0,.bool false] 37)=w0:=⟨_,rfl⟩
 have hb0:Below w.heap.size w w0:=by rw [← hw0];exact (Below.refl _ _).alloc (Nat.le_refl _) _
 have hx0:Blk w0 w.heap.size 37 #[.int .i64 0,.string ⟨#[]⟩,.int .i64 0,.int .i64 0,.bool false]:=by rw [← hw0];exact Blk.new _ _ _
 have HX0:=Lib.hid hx0
 have HS:Hid (∀ v0 v1 v2 v3 v4,Below w.heap.size w (((((w0.setCell ⟨w.heap.size,0,none⟩ v0).setCell ⟨w.heap.size,1,none⟩ v1).setCell ⟨w.heap.size,2,none⟩ v2).setCell ⟨w.heap.size,3,none⟩ v3).setCell ⟨w.heap.size,4,none⟩ v4)) :=
  Lib.hid fun v0 v1 v2 v3 v4=>hb0.trans ((tok_put hx0 v0 v1 v2 v3 v4).2.below hb0.size (fun k e=>by omega))
 have c0:=HX0.out.cell 0
 have c1:=HX0.out.cell 1
 have c2:=HX0.out.cell 2
 have c3:=HX0.out.cell 3
 have c4:=HX0.out.cell 4
 have f0:=HX0.out.frozen 0
 have f1:=HX0.out.frozen 1
 have f2:=HX0.out.frozen 2
 have f3:=HX0.out.frozen 3
 have f4:=HX0.out.frozen 4
 clear hb0 hx0
 have h0:0<s.size:=head_pos (c:=c) (by rw [hl];rfl)
 have hc0:s[0]=c:=byte_at h0 (by rw [hl];rfl)
 have HL:=Lib.hid hl
 clear hl
 have hlet:letterI (c.toNat:Int)=false:=hL
 have hdig:digitI (c.toNat:Int)=false:=hD
 have HSG:=Lib.hid (rsign_calls w0 s c (by rw [HL.out];rfl) hm (by rw [HL.out];exact hb) hin)
 have h34:((c.toNat:Int)==34)=false:=by
  rw [show ((34:Int)=((34:Nat):Int)) from rfl,u8_lit (by decide),beq_eq_false_iff_ne]
  exact fun e=>h3 (.inl e)
 have h39:((c.toNat:Int)==39)=false:=by
  rw [show ((39:Int)=((39:Nat):Int)) from rfl,u8_lit (by decide),beq_eq_false_iff_ne]
  exact fun e=>h3 (.inr e)
 have HT:=Lib.hid (take_bytes s 1)
 rw [HL.out] at HT
 have h1:1≤s.size:=h0
 clear hL hD h3 hb hin
 go_enter Tryz.func25,Tryz.ntmps25
 go_wp2_with (first
  | (go_at_call 40;refine (rletter_calls _ _).mono ?_;rintro e w' ⟨rfl,rfl⟩)
  | (go_at_call 43;refine (rdigit_calls _ _).mono ?_;rintro e w' ⟨rfl,rfl⟩)
  | (go_at_call 46;refine HSG.out.mono ?_;rintro e w' ⟨rfl,rfl⟩))
 refine tok_ret rfl rfl (tok_put HX0.out _ _ _ _ _).1 ⟨by rw [HT.out];rfl,HS.out _ _ _ _ _⟩
set_option maxRecDepth 100000 in
set_option maxHeartbeats 2000000 in
theorem rone_digit (w:World) (s:ByteArray) (c:UInt8) (r:List UInt8) (hl:s.data.toList=c::r) (hm:s.size≤65536) (hL:letterB c=false) (hD:digitB8 c=true) (k:Nat) (hk:((c::r).takeWhile digitB8).length=k) (hn:namesB (c::r)=k) (h15:k≤15) (hz:¬ (1<k∧c=48)) (hdot:[46].isPrefixOf ((c::r).drop k)=false):Calls Tryz.prog 25 #[.string s] w fun e w'=>e = .returned (.tuple #[tkVal ⟨3,[],numV ((c::r).take k)⟩ 0 false,.int .i64 k,.int .i64 0])∧Below w.heap.size w w':=by
 obtain ⟨w0,hw0⟩ : ∃ w0,w.alloc (.cells #[.int .i64 0,.string ⟨#[]⟩,.int .i64 0,.int .i64 0,.bool false] 37)=w0:=⟨_,rfl⟩
 have hb0:Below w.heap.size w w0:=by rw [← hw0];exact (Below.refl _ _).alloc (Nat.le_refl _) _
 have hx0:Blk w0 w.heap.size 37 #[.int .i64 0,.string ⟨#[]⟩,.int .i64 0,.int .i64 0,.bool false]:=by rw [← hw0];exact Blk.new _ _ _
 have HX0:=Lib.hid hx0
 have HS:Hid (∀ v0 v1 v2 v3 v4,Below w.heap.size w (((((w0.setCell ⟨w.heap.size,0,none⟩ v0).setCell ⟨w.heap.size,1,none⟩ v1).setCell ⟨w.heap.size,2,none⟩ v2).setCell ⟨w.heap.size,3,none⟩ v3).setCell ⟨w.heap.size,4,none⟩ v4)) :=
  Lib.hid fun v0 v1 v2 v3 v4=>hb0.trans ((tok_put hx0 v0 v1 v2 v3 v4).2.below hb0.size (fun k e=>by omega))
 have c0:=HX0.out.cell 0
 have c1:=HX0.out.cell 1
 have c2:=HX0.out.cell 2
 have c3:=HX0.out.cell 3
 have c4:=HX0.out.cell 4
 have f0:=HX0.out.frozen 0
 have f1:=HX0.out.frozen 1
 have f2:=HX0.out.frozen 2
 have f3:=HX0.out.frozen 3
 have f4:=HX0.out.frozen 4
 clear hb0 hx0
 have h0:0<s.size:=head_pos (c:=c) (by rw [hl];rfl)
 have hc0:s[0]=c:=byte_at h0 (by rw [hl];rfl)
 have HL:=Lib.hid hl
 clear hl
 have hlet:letterI (c.toNat:Int)=false:=hL
 have hdig:digitI (c.toNat:Int)=true:=hD
 have HR0:=Lib.hid (rrun_calls w0 s false hm)
 have HR1:=Lib.hid (rrun_calls w0 s true hm)
 rw [HL.out,show runP false=digitB8 from rfl,hk] at HR0
 unfold namesB at hn
 rw [HL.out,show runP true=partB8 from rfl,hn] at HR1
 have hkl:k≤s.size:=by rw [size_len,HL.out,← hk];exact tw_leR (p:=digitB8) (c::r)
 have HRR:Hid (∀ b:Bool,Calls Tryz.prog 41 #[.string s,.bool b] w0 fun e w'=>e = .returned (.int .i64 (k:Nat))∧w0=w'):=Lib.hid fun b=>by
  cases b with
  | true=>exact HR1.out
  | false=>exact HR0.out
 clear HR0 HR1
 have HE:Hid ((s.extract 0 k).data.toList=(c::r).take k):=Lib.hid (by rw [extract_take,HL.out])
 have hk1:0<k:=by
  rw [← hk]
  simp [hD]
 have HNU:=Lib.hid (rnumber_calls w0 (s.extract 0 k) (by rw [HE.out,← hk];exact take_tw_all _ _) (by rw [ByteArray.size_extract];omega) (by
  rw [HE.out,ByteArray.size_extract]
  rintro ⟨h1,h2⟩
  refine hz ⟨by omega,?_⟩
  obtain ⟨m,rfl⟩ : ∃ m,k=m+1:=⟨k-1,by omega⟩
  simpa using h2))
 rw [HE.out] at HNU
 generalize numV ((c::r).take k)=v at HNU ⊢
 clear hL hD hz
 by_cases hlt:k<s.size
 ·have hlti:(k:Int)<(s.size:Int):=by omega
  have h46:(((s[k]'hlt).toNat:Int)==46)=false:=by
   rw [show ((46:Int)=((46:Nat):Int)) from rfl,u8_lit (by decide),beq_eq_false_iff_ne]
   intro e
   have hb:s.data.toList[k]? = some (s[k]'hlt):=byte_some hlt
   rw [HL.out,e] at hb
   rw [← Bool.not_eq_true] at hdot
   refine hdot ?_
   rw [List.drop_eq_getElem_cons (by have:=(List.getElem?_eq_some_iff.1 hb).1;exact this)]
   have:=(List.getElem?_eq_some_iff.1 hb).2
   rw [this]
   rfl
  clear hdot hk hn
  go_enter Tryz.func25,Tryz.ntmps25
  go_wp2_with (first
   | (go_at_call 40;refine (rletter_calls _ _).mono ?_;rintro e w' ⟨rfl,rfl⟩)
   | (go_at_call 43;refine (rdigit_calls _ _).mono ?_;rintro e w' ⟨rfl,rfl⟩)
   | (go_at_call 41;refine (HRR.out _).mono ?_;rintro e w' ⟨rfl,rfl⟩)
   | (go_at_call 44;refine HNU.out.mono ?_;rintro e w' ⟨rfl,rfl⟩))
  refine tok_ret rfl rfl (tok_put HX0.out _ _ _ _ _).1 ⟨rfl,HS.out _ _ _ _ _⟩
 ·have hlti:¬ (k:Int)<(s.size:Int):=by omega
  clear hdot hk hn
  go_enter Tryz.func25,Tryz.ntmps25
  go_wp2_with (first
   | (go_at_call 40;refine (rletter_calls _ _).mono ?_;rintro e w' ⟨rfl,rfl⟩)
   | (go_at_call 43;refine (rdigit_calls _ _).mono ?_;rintro e w' ⟨rfl,rfl⟩)
   | (go_at_call 41;refine (HRR.out _).mono ?_;rintro e w' ⟨rfl,rfl⟩)
   | (go_at_call 44;refine HNU.out.mono ?_;rintro e w' ⟨rfl,rfl⟩))
  refine tok_ret rfl rfl (tok_put HX0.out _ _ _ _ _).1 ⟨rfl,HS.out _ _ _ _ _⟩
end
section
open Go.RowKit Go.Sort Go.Shelf
attribute [local go_sem] Oper.semAt_some
structure KptL (F:Nat→Prop) (W W':World) (F':Nat→Prop):Prop where
 turn:Turn F W W'
 foot : ∀ k,k<W.heap.size→¬ F k→¬ F' k
theorem blanksF_sum {B:Nat} : ∀ {f:Nat} {x:Sc},x.line+x.s.length≤B→(blanksF f x).2.line+(blanksF f x).2.s.length≤B
 | 0,x,h=>h
 | f+1,x,h=>by
  simp only [blanksF]
  split
  ·exact h
  ·exact h
  ·exact blanksF_sum (passF_sum h)
def onePost (A:Act) (X:World):Exit→Act→World→Prop
 | .normal,a',w'=>a'=A∧w'=X
 | _,_,_=>False
theorem wpIn_oneM {F:Fence} {n:Nat} {P:Program} {c:Code} {Q:Exit→Act→World→Prop} {a:Act} {w:World} (A:Act) (X:World) (h:c.wpIn F n P (onePost A X) a w) (hq:Q .normal A X):c.wpIn F n P Q a w :=
 wpIn_mono h (fun e a' w' hh=>by
  cases e with
  | normal=>obtain ⟨rfl,rfl⟩:=hh;exact hq
  | _=>exact hh.elim)
def ansL (s:List UInt8):List Tl × Option (Nat × Int):=lexGo (s.length+1) ⟨s,1,false⟩ 0
def TokAt (ans:List Tl × Option (Nat × Int)) (p:List Tl) (x:Sc):Prop :=
 ∃ f,x.s.length<f∧ans=(p++(lexGo f x p.length).1,(lexGo f x p.length).2)∧x.line+x.s.length≤1000000∧p.length≤20000
theorem TokAt.start (s:List UInt8) (h:s.length≤65536):TokAt (ansL s) [] ⟨s,1,false⟩ :=
 ⟨s.length+1,by simp,by simp [ansL],by simp;omega,by simp⟩
section
variable {ans:List Tl × Option (Nat × Int)} {p:List Tl} {x y:Sc}
theorem TokAt.sum (h:TokAt ans p x):x.line+x.s.length≤1000000:=by obtain ⟨_,_,_,h,_⟩:=h;exact h
theorem TokAt.bad (h:TokAt ans p x) (hb:blanksF x.s.length x=(false,y)):ans=(p,some (y.line,23)):=by
 obtain ⟨f,hf,h,_⟩:=h
 obtain ⟨f,rfl⟩ : ∃ g,f=g+1:=⟨f-1,by omega⟩
 rw [h]
 simp [lexGo,hb]
theorem TokAt.over (h:TokAt ans p x) (hb:blanksF x.s.length x=(true,y)) (hs:y.s=[]):ans=(p,none):=by
 obtain ⟨f,hf,h,_⟩:=h
 obtain ⟨f,rfl⟩ : ∃ g,f=g+1:=⟨f-1,by omega⟩
 rw [h]
 simp [lexGo,hb,hs]
theorem TokAt.wrong (h:TokAt ans p x) (hb:blanksF x.s.length x=(true,y)) (hs:y.s≠[]) (he:(tokenF y.s).2.2≠0):ans=(p,some (y.line,(tokenF y.s).2.2)):=by
 obtain ⟨f,hf,h,_⟩:=h
 obtain ⟨f,rfl⟩ : ∃ g,f=g+1:=⟨f-1,by omega⟩
 rw [h]
 simp [lexGo,hb,hs,he]
theorem TokAt.long (h:TokAt ans p x) (hb:blanksF x.s.length x=(true,y)) (hs:y.s≠[]) (he:(tokenF y.s).2.2=0) (hp:p.length=20000):ans=(p,some (y.line,20)):=by
 obtain ⟨f,hf,h,_⟩:=h
 obtain ⟨f,rfl⟩ : ∃ g,f=g+1:=⟨f-1,by omega⟩
 rw [h]
 simp [lexGo,hb,hs,he,hp]
theorem TokAt.next (h:TokAt ans p x) (hb:blanksF x.s.length x=(true,y)) (hs:y.s≠[]) (he:(tokenF y.s).2.2=0) (hp:p.length≠20000) :
  TokAt ans (p++[⟨(tokenF y.s).1,y.line,y.nl⟩]) { passF y (tokenF y.s).2.1 with nl:=false }:=by
 obtain ⟨f,hf,h,h3,h4⟩:=h
 obtain ⟨f,rfl⟩ : ∃ g,f=g+1:=⟨f-1,by omega⟩
 obtain ⟨t1,t2,_⟩:=token_ok he
 have hl:=(lexL_blanks (f:=x.s.length) (g:=x.s.length) (x:=x) (Nat.le_refl _) (Nat.le_refl _)).1
 rw [hb] at hl
 replace hl:y.s.length≤x.s.length:=hl
 have hsum:=blanksF_sum (B:=1000000) (f:=x.s.length) h3
 rw [hb] at hsum
 replace hsum:y.line+y.s.length≤1000000:=hsum
 have hps:=passF_sum (n:=(tokenF y.s).2.1) hsum
 have hpl:=passF_len y (tokenF y.s).2.1
 refine ⟨f,by show (passF y _).s.length<f;rw [hpl];omega,?_,hps,by simp;omega⟩
 rw [h]
 simp [lexGo,hb,hs,he,hp]
end
theorem tokens_calls (w:World) (s:ByteArray):Calls Tryz.prog 32 #[.string s] w fun e w' =>
  e = .returned (.func (.func 60) #[] #[.pointer (some ⟨w.heap.size,0,none⟩)])∧w.alloc (.cells #[.string s] 9)=w':=by
 go_enter Tryz.func32,Tryz.ntmps32
 go_wp2
 go_ret
 exact ⟨rfl,rfl⟩
structure TokJ (l sb:Nat) (s:ByteArray) (S:World→Prop) (J:List Tl→(Nat→Prop)→World→Prop):Prop where
 foot : ∀ {p F W},J p F W → ∀ k,F k→k<W.heap.size
 keep : ∀ {p F W W'},J p F W→Turn (fun k=>¬ F k) W W'→J p F W'
 laid : ∀ {p F W},J p F W→LaidJ W∧W.cell? ⟨sb,0,none⟩=some (.string s)
 yes : ∀ (m:Nat) {p F W} (t:Tk) (line:Nat) (nl:Bool),J p F W→p.length<20000→YieldAt Fence.wide m Tryz.prog l #[tkVal t line nl,.int .i64 0] W fun e W'=>e = .returned (.bool true) ∧ ∃ F',J (p++[⟨t,line,nl⟩]) F' W'∧KptL F W W' F'
 no : ∀ (m:Nat) {p F W} (t:Tk) (line:Nat) (nl:Bool) (e0:Int),J p F W→(e0≠0∧ansL s.data.toList=(p,some (line,e0))∨e0=0∧p.length=20000∧ansL s.data.toList=(p,some (line,20))) →
  YieldAt Fence.wide m Tryz.prog l #[tkVal t line nl,.int .i64 e0] W fun e W'=>e = .returned (.bool false)∧S W'
set_option maxRecDepth 100000 in
set_option maxHeartbeats 800000 in
theorem tokens1_in (n l sb:Nat) (s:ByteArray) (hs:s.size≤65536) (S:World→Prop) (J:List Tl→(Nat→Prop)→World→Prop) (HJ:Hid (TokJ l sb s S J)) (F:Nat→Prop) (W:World) (hJ:J [] F W) :
  CallsIn Fence.wide n Tryz.prog 60 #[.func (.yield l) #[] #[],.pointer (some ⟨sb,0,none⟩)] W fun e W' =>
   (∃ v,e = .returned v)∧((∃ F',J (ansL s.data.toList).1 F' W'∧(ansL s.data.toList).2=none)∨S W'):=by
 have hsb:=(HJ.out.laid hJ).2
 obtain ⟨W1,hW1⟩ : ∃ W1,W.alloc (.cells #[.string s,.int .i64 1,.bool false] 96)=W1:=⟨_,rfl⟩
 have hT1:Turn (fun _=>False) W W1:=by rw [← hW1];exact (Turn.refl _ _).alloc _
 have hX1:ScAt W1 W.heap.size ⟨s.data.toList,1,false⟩:=⟨s,rfl,by rw [← hW1];exact Blk.new _ _ _⟩
 have HJ1:=Lib.hid (HJ.out.keep hJ (hT1.mono (fun _ _ e=>e.elim)))
 have HX1:=Lib.hid hX1
 have HFB:Hid (¬ F W.heap.size):=Lib.hid (fun h=>Nat.lt_irrefl _ (HJ.out.foot hJ _ h))
 have HTA:=Lib.hid (TokAt.start s.data.toList (by rw [← size_len];exact hs))
 clear hX1 hT1 hJ
 refine callsIn_of_wp Tryz.func60 rfl trivial ?_ rfl
 simp only [Tryz.ntmps60,List.size_toArray,List.length_cons,List.length_nil,Nat.reduceAdd,Nat.reduceSub,Array.replicate_succ,Array.replicate_zero,List.push_toArray,List.append_toArray,List.nil_append,List.cons_append]
 gi_wp2
 gi_loopg [] (s.data.toList.length) (fun k wr => ∃ (p:List Tl) (F':Nat→Prop) (x:Sc),k=x.s.length∧ScAt wr W.heap.size x∧J p F' wr∧¬ F' W.heap.size∧TokAt (ansL s.data.toList) p x)
 case atStart=>exact ⟨[],F,_,rfl,HX1.out,HJ1.out,HFB.out,HTA.out⟩
 case round =>
  obtain ⟨p,F',x,hk,hx,hj,hfb,hta⟩:=hrel
  have HK:=Lib.hid hk
  have HX:=Lib.hid hx
  have HJR:=Lib.hid hj
  have HFR:=Lib.hid hfb
  have HTR:=Lib.hid hta
  clear hk hx hj hfb hta HJ1 HX1 HTA HFB
  gi_wp2
  refine ⟨trivial,fun hh=>(by cases hh),(callsIn_wide.2 (blanks_calls wr W.heap.size x HX.out (fun w' hT=>(HJ.out.laid (HJ.out.keep HJR.out (hT.mono (fun k _ e h=>HFR.out (by subst e;exact h))))).1) HTR.out.sum)).mono ?_⟩
  rintro e w2 ⟨rfl,hx2,hT2⟩
  have HJ2:=Lib.hid (HJ.out.keep HJR.out (hT2.mono (fun k _ e h=>HFR.out (by subst e;exact h))))
  have hln:=(lexL_blanks (f:=x.s.length) (g:=x.s.length) (x:=x) (Nat.le_refl _) (Nat.le_refl _)).1
  have hsum:=blanksF_sum (B:=1000000) (f:=x.s.length) HTR.out.sum
  obtain ⟨⟨bb,y⟩,hbl⟩ : ∃ z,blanksF x.s.length x=z:=⟨_,rfl⟩
  rw [hbl] at hx2 hln hsum ⊢
  replace hln:y.s.length≤x.s.length:=hln
  replace hsum:y.line+y.s.length≤1000000:=hsum
  replace hx2:ScAt w2 W.heap.size y:=hx2
  have HBL:=Lib.hid hbl
  have HLN:=Lib.hid hln
  have HSUM:=Lib.hid hsum
  have HX2:=Lib.hid hx2
  obtain ⟨cur,hcur,hb2⟩:=hx2
  have HC:=Lib.hid hcur
  have HB2:=Lib.hid hb2
  have c0:=hb2.cell 0
  have c1:=hb2.cell 1
  have c2:=hb2.cell 2
  clear hbl hln hsum hcur hb2 hT2
  cases bb with
  | false =>
   obtain ⟨fn,tmps,assign,body,hy0,hR⟩:=HJ.out.no (n-1) Tk.zero y.line false 23 HJ2.out (.inl ⟨by decide,HTR.out.bad HBL.out⟩)
   have hy:(Instr.yield l #[.agg #[.int .i64 0,.string ⟨#[]⟩,.int .i64 0,.int .i64 y.line,.bool false],.int .i64 23]).run Tryz.prog w2=_:=hy0
   clear hy0
   gi_wp2
   refine ⟨fun hh=>(by cases hh),hR.mono ?_⟩
   rintro e W3 ⟨rfl,hS⟩
   have HS:=Lib.hid hS
   clear hS hR hy
   gi_wp2
   refine bodyPost_ret (results_none rfl _ _ _) rfl ?_
   exact ⟨⟨_,rfl⟩,.inr HS.out⟩
  | true =>
   cases hem:cur.toList.isEmpty with
   | true =>
    have hys:y.s=[]:=by
     rw [ByteArray.toList_eq] at hem
     rw [← HC.out]
     exact List.isEmpty_iff.1 hem
    have HA:=Lib.hid (HTR.out.over HBL.out hys)
    clear hys
    gi_wp2
    refine bodyPost_ret (results_none rfl _ _ _) rfl ?_
    exact ⟨⟨_,rfl⟩,.inl ⟨F',by rw [HA.out];exact HJ2.out,by rw [HA.out]⟩⟩
   | false =>
    have hys:y.s≠[]:=by
     intro h
     rw [ByteArray.toList_eq,HC.out,h] at hem
     simp at hem
    have HYS:=Lib.hid hys
    have hsz:cur.size=y.s.length:=by rw [size_len,HC.out]
    have HTK:=Lib.hid (token_calls w2 (HJ.out.laid HJ2.out).1.laid cur (by have:=HSUM.out;omega) (by rw [hsz];exact List.length_pos_iff.2 hys))
    rw [HC.out] at HTK
    clear hys hsz
    gi_wp2
    refine ⟨trivial,fun hh=>(by cases hh),(callsIn_wide.2 HTK.out).mono ?_⟩
    rintro e w3 ⟨rfl,hb3⟩
    obtain ⟨⟨⟨tk,tu,tn⟩,nn,e0⟩,hz⟩ : ∃ z,tokenF y.s=z:=⟨_,rfl⟩
    rw [hz]
    simp only [tokOut,tkVal]
    have HZ:=Lib.hid hz
    have HB3:=Lib.hid hb3
    clear hz hb3
    gi_wp2
    obtain ⟨w4,hw4⟩ : ∃ w4,w3.alloc (.cells #[.int .i64 tk,.string ⟨tu.toArray⟩,.int .i64 tn,.int .i64 0,.bool false] 37)=w4:=⟨_,rfl⟩
    have hb4:Below w2.heap.size w2 w4:=by rw [← hw4];exact HB3.out.alloc HB3.out.size _
    have hx4:Blk w4 w3.heap.size 37 #[.int .i64 tk,.string ⟨tu.toArray⟩,.int .i64 tn,.int .i64 0,.bool false]:=by rw [← hw4];exact Blk.new _ _ _
    rw [hw4]
    clear hw4
    have hs4:=HB2.out.keep (hb4.block _ HB2.out.lt)
    have d1:=hs4.cell 1
    have d2:=hs4.cell 2
    have t3:=hx4.cell 3
    have t4:=hx4.cell 4
    have f3:=hx4.frozen 3
    have f4:=hx4.frozen 4
    obtain ⟨w5,hw5⟩ : ∃ w5,(w4.setCell ⟨w3.heap.size,3,none⟩ (.int .i64 y.line)).setCell ⟨w3.heap.size,4,none⟩ (.bool y.nl)=w5:=⟨_,rfl⟩
    have hx5:Blk w5 w3.heap.size 37 #[.int .i64 tk,.string ⟨tu.toArray⟩,.int .i64 tn,.int .i64 y.line,.bool y.nl]:=by
     rw [← hw5]
     have h1:=(hx4.set_ 3 (.int .i64 y.line)).set_ 4 (.bool y.nl)
     simpa [Array.setIfInBounds] using h1
    have hb5:Below w2.heap.size w2 w5:=by
     rw [← hw5]
     exact hb4.trans ((((Turn.refl (fun k=>k=w3.heap.size) w4).setCell (p:=⟨w3.heap.size,3,none⟩) (fun _=>rfl) _).setCell (p:=⟨w3.heap.size,4,none⟩) (fun _=>rfl) _).below hb4.size (fun k e=>by have:=HB3.out.size;omega))
    have HX5:=Lib.hid hx5
    have HB5:=Lib.hid hb5
    have HW5:=Lib.hid hw5
    clear hx4 hs4 hb4 hx5 hb5 hw5 c0 c1 c2
    have hmo:Tryz.prog.follows .mixedOrders=true:=by kernel_rfl
    apply wpIn_oneM
    case h =>
     gi_region_with_o (fail)
     all_goals exact ⟨rfl,rfl⟩
    clear hmo d1 d2 t3 t4 f3 f4
    rw [HW5.out]
    have hb6:Below w2.heap.size w2 w5.drew:=HB5.out.trans (Below.refl _ _).drew
    have hx6:Blk w5.drew w3.heap.size 37 #[.int .i64 tk,.string ⟨tu.toArray⟩,.int .i64 tn,.int .i64 y.line,.bool y.nl]:=HX5.out
    generalize w5.drew=w6 at hb6 hx6 ⊢
    have hj6:J p F' w6:=HJ.out.keep HJ2.out ((Turn.of_below hb6).mono (fun _ _ e=>e.elim))
    have hs6:ScAt w6 W.heap.size y:=HX2.out.below hb6
    have HJ6:=Lib.hid hj6
    have HS6:=Lib.hid hs6
    have g0:=hx6.cell 0
    have g1:=hx6.cell 1
    have g2:=hx6.cell 2
    have g3:=hx6.cell 3
    have g4:=hx6.cell 4
    have HZ1:Hid ((tokenF y.s).2.2=e0∧(tokenF y.s).2.1=nn∧(tokenF y.s).1=⟨tk,tu,tn⟩):=Lib.hid (by rw [HZ.out];exact ⟨rfl,rfl,rfl⟩)
    clear hb6 hx6 hj6 hs6 HX5 HB5 HW5 HZ
    by_cases he:e0=0
    ·by_cases hp:p.length=20000
     ·obtain ⟨fn,tmps,assign,body,hy0,hR⟩:=HJ.out.no (n-1) ⟨tk,tu,tn⟩ y.line y.nl e0 HJ6.out (.inr ⟨he,hp,HTR.out.long HBL.out HYS.out (HZ1.out.1.trans he) hp⟩)
      have hy:(Instr.yield l #[.agg #[.int .i64 tk,.string ⟨tu.toArray⟩,.int .i64 tn,.int .i64 y.line,.bool y.nl],.int .i64 e0]).run Tryz.prog w6=_:=hy0
      clear hy0 he hp
      gi_wp2
      refine ⟨fun hh=>(by cases hh),hR.mono ?_⟩
      rintro e W3 ⟨rfl,hS⟩
      have HS:=Lib.hid hS
      clear hS hR hy
      gi_wp2
      refine bodyPost_ret (results_none rfl _ _ _) rfl ?_
      exact ⟨⟨_,rfl⟩,.inr HS.out⟩
     ·have hpl:p.length<20000:=by obtain ⟨_,_,_,_,h⟩:=HTR.out;omega
      subst he
      obtain ⟨fn,tmps,assign,body,hy0,hR⟩:=HJ.out.yes (n-1) ⟨tk,tu,tn⟩ y.line y.nl HJ6.out hpl
      have hy:(Instr.yield l #[.agg #[.int .i64 tk,.string ⟨tu.toArray⟩,.int .i64 tn,.int .i64 y.line,.bool y.nl],.int .i64 0]).run Tryz.prog w6=_:=hy0
      have hnx:=HTR.out.next HBL.out HYS.out HZ1.out.1 hp
      have hnn:=token_ok HZ1.out.1
      rw [HZ1.out.2.1,HZ1.out.2.2] at hnx
      rw [HZ1.out.2.1] at hnn
      have HNX:=Lib.hid hnx
      have HNN:=Lib.hid hnn
      clear hy0 hpl hp hnx hnn
      gi_wp2
      refine ⟨fun hh=>(by cases hh),hR.mono ?_⟩
      rintro e W7 ⟨rfl,F7,hj7,hk7⟩
      have hs7:ScAt W7 W.heap.size y:=by
       obtain ⟨cur7,hc7,hb7⟩:=HS6.out
       exact ⟨cur7,hc7,hb7.keep (hk7.turn.block _ hb7.lt HFR.out)⟩
      have HF7:Hid (¬ F7 W.heap.size):=Lib.hid (by
       obtain ⟨cur7,hc7,hb7⟩:=HS6.out
       exact hk7.foot _ hb7.lt HFR.out)
      have HS7:=Lib.hid hs7
      have HJ7:=Lib.hid hj7
      clear hj7 hk7 hs7 hR hy g0 g1 g2 g3 g4
      gi_wp2
      refine ⟨trivial,fun hh=>(by cases hh),(callsIn_wide.2 (pass_calls W7 W.heap.size y nn HS7.out HNN.out.2.1 HSUM.out)).mono ?_⟩
      rintro e w8 ⟨⟨v8,rfl⟩,hs8,hT8⟩
      have HJ8:=Lib.hid (HJ.out.keep HJ7.out (hT8.mono (fun k _ e h=>HF7.out (by subst e;exact h))))
      obtain ⟨cur8,hcur8,hb8⟩:=hs8
      have HC8:=Lib.hid hcur8
      have HB8:=Lib.hid hb8
      have k2:=hb8.cell 2
      have q2:=hb8.frozen 2
      clear hcur8 hb8 hT8
      gi_wp2
      gi_roundg ({ passF y nn with nl:=false }:Sc).s.length
      case measure =>
       rw [HK.out]
       show (passF y nn).s.length<_
       rw [passF_len]
       have:=HLN.out
       have:=HNN.out
       omega
      case rel =>
       refine ⟨_,F7,{ passF y nn with nl:=false },rfl,⟨cur8,HC8.out,?_⟩,HJ.out.keep HJ8.out ?_,HF7.out,HNX.out⟩
       ·have h1:=HB8.out.set_ 2 (.bool false)
        simpa [Array.setIfInBounds] using h1
       ·exact (((Turn.refl (fun k=>k=W.heap.size) w8).setCell (p:=⟨W.heap.size,2,none⟩) (fun _=>rfl) _)).mono (fun k _ e h=>HF7.out (by subst e;exact h))
    ·obtain ⟨fn,tmps,assign,body,hy0,hR⟩:=HJ.out.no (n-1) ⟨tk,tu,tn⟩ y.line y.nl e0 HJ6.out (.inl ⟨he,by rw [HTR.out.wrong HBL.out HYS.out (by rw [HZ1.out.1];exact he),HZ1.out.1]⟩)
     have hy:(Instr.yield l #[.agg #[.int .i64 tk,.string ⟨tu.toArray⟩,.int .i64 tn,.int .i64 y.line,.bool y.nl],.int .i64 e0]).run Tryz.prog w6=_:=hy0
     clear hy0 he
     gi_wp2
     refine ⟨fun hh=>(by cases hh),hR.mono ?_⟩
     rintro e W3 ⟨rfl,hS⟩
     have HS:=Lib.hid hS
     clear hS hR hy
     gi_wp2
     refine bodyPost_ret (results_none rfl _ _ _) rfl ?_
     exact ⟨⟨_,rfl⟩,.inr HS.out⟩
end
end Go.Proofs.YtjjdmiaonkailaaGreatDoor
