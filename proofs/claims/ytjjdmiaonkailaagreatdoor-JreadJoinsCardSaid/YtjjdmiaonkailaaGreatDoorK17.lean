/- Walks and plain laws, packed: PlH, ToksC, Txt, Lines, Show, ShA. -/
import Derived.Test.YtjjdmiaonkailaaGreatDoorK04
import Derived.Test.YtjjdmiaonkailaaGreatDoorK15
import Derived.Test.YtjjdmiaonkailaaGreatDoorK16
import Derived.Test.YtjjdmiaonkailaaGreatDoorK14
import Derived.Test.YtjjdmiaonkailaaGreatDoorK08
import Derived.Deep.RegionHeld3
import Derived.Test.YtjjdmiaonkailaaGreatDoorK02
import Derived.KernelRfl
namespace Go.Proofs.YtjjdmiaonkailaaGreatDoor
section
open Go.RowKit
def tk8 (c:UInt8):Tl:=⟨⟨5,[c],0⟩,1,false⟩
def aTl:Tl:=⟨⟨1,[97],0⟩,1,false⟩
def highS (n m:Nat):List UInt8:=List.replicate n 33++(List.replicate m 40++97::List.replicate m 41)
def highT (n m:Nat):List Tl:=List.replicate n (tk8 33)++(List.replicate m (tk8 40)++aTl::List.replicate m (tk8 41))
theorem rl_step {c:UInt8} {r:List UInt8} {t:Tk} {f:Nat} {l:List Tl} (h1:spacesL.contains c=false) (h2:darkB (c::r)=true) (h3:rtokF c r=some (t,1)) (h4:rlexB f r 1 false=some l):rlexB (f+1) (c::r) 1 false=some (⟨t,1,false⟩::l):=by
 rw [rlexB,if_neg (by rw [h1];decide),if_pos h2,h3]
 simp only [List.drop_succ_cons,List.drop_zero,h4,Option.map_some]
theorem dark_of {c:UInt8} {r:List UInt8} (h1:spacesL.contains c=false) (h2:(c==47)=false):darkB (c::r)=true:=by
 unfold darkB
 simp only [List.headD_cons,h1,h2]
 rfl
theorem sign_tok {c:UInt8} {r:List UInt8} (h1:letterB c=false) (h2:digitB8 c=false) (h3:¬ (c=34∨c=39)) (h4:beginsF (c::r) signs5=0) (h5:signs7.contains c=true):rtokF c r=some (⟨5,[c],0⟩,1):=by
 unfold rtokF
 rw [if_neg (by rw [h1];decide),if_neg (by rw [h2];decide),if_neg h3,if_pos ⟨h4,h5⟩]
theorem rl_close : ∀ m f:Nat,m<f→rlexB f (List.replicate m 41) 1 false=some (List.replicate m (tk8 41))
 | 0,0,h=>by omega
 | 0,f+1,_=>rfl
 | m+1,0,h=>by omega
 | m+1,f+1,h=>by
  rw [List.replicate_succ,List.replicate_succ]
  exact rl_step (by decide) (dark_of (by decide) (by decide)) (sign_tok (by decide) (by decide) (by decide) (by simp [beginsF,signs5]) (by decide)) (rl_close m f (by omega))
theorem names_a (m:Nat):namesB (97::List.replicate m 41)=1:=by
 cases m with
 | zero=>decide
 | succ m =>
  have h1:partB8 97=true:=by decide
  have h2:partB8 41=false:=by decide
  simp [namesB,List.replicate_succ,h1,h2]
theorem rl_a (m f:Nat) (h:m+1<f):rlexB f (97::List.replicate m 41) 1 false=some (aTl::List.replicate m (tk8 41)):=by
 obtain ⟨f,rfl⟩ : ∃ g,f=g+1:=⟨f-1,by omega⟩
 refine rl_step (t:=⟨1,[97],0⟩) (by decide) (dark_of (by decide) (by decide)) ?_ (rl_close m f (by omega))
 unfold rtokF
 rw [if_pos (by decide),names_a]
 have:wordB [97]=false:=by decide +kernel
 simp [this]
theorem rl_open (m:Nat) : ∀ k f:Nat,k+m+1<f→rlexB f (List.replicate k 40++97::List.replicate m 41) 1 false=some (List.replicate k (tk8 40)++aTl::List.replicate m (tk8 41))
 | 0,f,h=>rl_a m f (by omega)
 | k+1,0,h=>by omega
 | k+1,f+1,h=>by
  rw [List.replicate_succ,List.replicate_succ]
  exact rl_step (by decide) (dark_of (by decide) (by decide)) (sign_tok (by decide) (by decide) (by decide) (by simp [beginsF,signs5]) (by decide)) (rl_open m k f (by omega))
theorem no_three (n m:Nat):beginsF (33::(List.replicate n 33++(List.replicate m 40++97::List.replicate m 41))) signs5=0:=by
 cases n with
 | zero=>cases m <;> simp [beginsF,signs5,List.replicate_succ]
 | succ n=>simp [beginsF,signs5,List.replicate_succ]
theorem rl_bang (m:Nat) : ∀ n f:Nat,n+2*m+1<f→rlexB f (highS n m) 1 false=some (highT n m)
 | 0,f,h=>rl_open m m f (by omega)
 | n+1,0,h=>by omega
 | n+1,f+1,h=>by
  have e1:highS (n+1) m=33::highS n m:=by simp [highS,List.replicate_succ]
  have e2:highT (n+1) m=tk8 33::highT n m:=by simp [highT,List.replicate_succ]
  rw [e1,e2]
  exact rl_step (by decide) (dark_of (by decide) (by decide)) (sign_tok (by decide) (by decide) (by decide) (no_three n m) (by decide)) (rl_bang m n f (by omega))
theorem highS_len (n m:Nat):(highS n m).length=n+2*m+1:=by
 simp [highS]
 omega
theorem highT_len (n m:Nat):(highT n m).length=n+2*m+1:=by
 simp [highT]
 omega
def Foll (r:List Tl):Prop:=r=[] ∨ ∃ q,r=tk8 41::q
theorem Foll.at_ {r:List Tl} (h:Foll r) {ss:List (List UInt8)} (hs:ss.contains [41]=false):atF ss r=false:=by
 rcases h with rfl | ⟨q,rfl⟩
 ·rfl
 ·simp only [atF,tk8,hs,Bool.and_false]
section
variable {last:Nat} {l r:List Tl} {x:Tree} {b:Bool}
theorem fq {α : Type} (f:Fns → α):f (fixF last)=f (stepFns last (fixF last)):=(congrArg f (fix_eq last)).symm
theorem okb {α β : Type} {a : α} {r:List Tl} {g : α → List Tl→Rd β}:(Rd.ok a r).bind g=g a r:=rfl
theorem lvl_step {n:Nat} (hn:n<6) (h:(fixF last).level (n+1) l=Rd.ok (x,b) r) (hr:Foll r):(fixF last).level n l=Rd.ok (x,b) r:=by
 rw [fq fun F=>F.level n l]
 show levelS (fixF last) n l=_
 unfold levelS
 rw [if_neg (by omega),h,okb,fq fun F=>F.more n (x,b).1 (x,b).2 r]
 show moreS last (fixF last) n x b r=_
 unfold moreS
 rw [if_neg]
 rw [hr.at_ (by unfold signsN;(repeat' split) <;> decide)]
 decide
theorem sg_expr (h:(fixF last).signed l=Rd.ok (x,b) r) (hr:Foll r):(fixF last).expr l=Rd.ok x r:=by
 have h6:(fixF last).level 6 l=Rd.ok (x,b) r:=by
  rw [fq fun F=>F.level 6 l]
  exact h
 have h0:=lvl_step (by omega) (lvl_step (by omega) (lvl_step (by omega) (lvl_step (by omega) (lvl_step (by omega) (lvl_step (by omega) h6 hr) hr) hr) hr) hr) hr
 have hc:(fixF last).cond l=Rd.ok (x,b) r:=by
  rw [fq fun F=>F.cond l]
  show condS last (fixF last) l=_
  unfold condS
  rw [h0,okb,if_neg (by rw [hr.at_ (by decide)];decide)]
 rw [fq fun F=>F.expr l]
 show exprS (fixF last) l=_
 unfold exprS
 rw [hc,okb,if_neg (by rw [hr.at_ (by decide)];simp)]
theorem th_signed (h:(fixF last).thing l=Rd.ok x r) (hr:Foll r) (h1:atF [[33]] l=false) (h2:atF [[45]] l=false) (h3:atF [[110,101,119]] l=false) : ∃ b,(fixF last).signed l=Rd.ok (x,b) r:=by
 have hm:(fixF last).members true x r=Rd.ok x r:=by
  rw [fq fun F=>F.members true x r]
  show membersS last (fixF last) true x r=_
  unfold membersS
  rw [if_neg (by rw [hr.at_ (by decide)];decide),if_neg (by rw [hr.at_ (by decide)];decide),if_neg (by rw [hr.at_ (by decide)];simp)]
 refine ⟨bareB (atF [[40]] l&&r.length==r.length) x,?_⟩
 rw [fq fun F=>F.signed l]
 show signedS last (fixF last) l=_
 unfold signedS
 rw [if_neg (by rw [h1];decide),if_neg (by rw [h2];decide),fq fun F=>F.chain l]
 show chainS last (fixF last) l=_
 unfold chainS
 rw [if_neg (by rw [h3];decide),h,okb]
 unfold linkF
 rw [hm,okb]
theorem par_thing (h:(fixF last).expr l=Rd.ok x (tk8 41::r)):(fixF last).thing (tk8 40::l)=Rd.ok x r:=by
 rw [fq fun F=>F.thing (tk8 40::l)]
 show headS last (fixF last) (tk8 40::l)=_
 unfold headS
 show ((fixF last).expr l).bind _=_
 rw [h]
 rfl
theorem a_thing:(fixF last).thing (aTl::r)=Rd.ok (nd 1 [97] [] 1) r:=by
 rw [fq fun F=>F.thing (aTl::r)]
 rfl
theorem high_m : ∀ (m:Nat) (r:List Tl),Foll r → ∃ b,(fixF last).signed (List.replicate m (tk8 40)++aTl::(List.replicate m (tk8 41)++r))=Rd.ok (nd 1 [97] [] 1,b) r
 | 0,r,hr=>th_signed a_thing hr rfl rfl rfl
 | m+1,r,hr=>by
  obtain ⟨b,h⟩:=high_m m (tk8 41::r) (.inr ⟨r,rfl⟩)
  have h2:=par_thing (sg_expr h (.inr ⟨r,rfl⟩))
  have e:List.replicate (m+1) (tk8 41)++r=List.replicate m (tk8 41)++(tk8 41::r):=by
   rw [List.replicate_succ',List.append_assoc]
   rfl
  rw [e,List.replicate_succ]
  exact th_signed h2 hr rfl rfl rfl
def nots:Nat→Tree→Tree
 | 0,x=>x
 | n+1,x=>nd 19 [] [nots n x] 1
theorem high_n (h:(fixF last).signed l=Rd.ok (x,b) r) : ∀ n:Nat,∃ b,(fixF last).signed (List.replicate n (tk8 33)++l)=Rd.ok (nots n x,b) r
 | 0=>⟨b,h⟩
 | n+1=>by
  obtain ⟨b2,h2⟩:=high_n h n
  refine ⟨false,?_⟩
  rw [fq fun F=>F.signed _,List.replicate_succ]
  show (Rd.bind ((fixF last).signed (List.replicate n (tk8 33)++l)) _)=_
  rw [h2]
  rfl
end
theorem high_sole (n m:Nat):soleF (fuelF (highT n m)) (highT n m)=some (.ok (nots n (nd 1 [97] [] 1),[])):=by
 rw [soleF_fix]
 generalize lastF (highT n m)=k
 obtain ⟨b,h⟩:=high_m (last:=k) m [] (.inl rfl)
 obtain ⟨b2,h2⟩:=high_n h n
 rw [List.append_nil] at h2
 have h3:=sg_expr h2 (.inl rfl)
 unfold highT
 rw [h3]
 rfl
theorem fits_a (h:Nat):fitsB h (nd 1 [97] [] 1)=decide (0<h):=by
 cases h with
 | zero=>rfl
 | succ h =>
  rw [fitsB]
  have:nameB [97]=true:=by decide +kernel
  simp [fitStep,formF,nd,Tree.op,Tree.l,Tree.s,Tree.n,bytesA,testB,this,numB,kidsB]
theorem fits_nots : ∀ (n h:Nat),fitsB h (nots n (nd 1 [97] [] 1))=decide (n<h)
 | 0,h=>fits_a h
 | n+1,0=>rfl
 | n+1,h+1=>by
  have ih:=fits_nots n h
  have he:exprK (nots n (nd 1 [97] [] 1)).op=true:=by cases n <;> rfl
  rw [nots,fitsB]
  generalize nots n (nd 1 [97] [] 1)=x at ih he ⊢
  have h1:decide (n+1<h+1)=decide (n<h):=by simp
  rw [h1]
  simp [fitStep,formF,nd,Tree.op,Tree.l,Tree.s,Tree.n,bytesA,testB,numB,kidsB,partB,ih]
  intro _
  exact he
theorem rightE_nots (n:Nat):rightE (nots n (nd 1 [97] [] 1))=decide (n+1≤100):=by
 have he:exprK (nots n (nd 1 [97] [] 1)).op=true:=by cases n <;> rfl
 rw [rightE,he,fits_nots,Bool.true_and]
 simp
 omega
end
section
open Go.RowKit Go.Sort
set_option maxRecDepth 100000 in
set_option maxHeartbeats 1000000 in
theorem rtoks_calls (w:World) (s:ByteArray) (hm:s.size≤65536) (f0:Nat) (l:List Tl) (hl:rlexB f0 s.data.toList 1 false=some l) (hlen:l.length≤20000):Calls Tryz.prog 23 #[.string s] w fun e w' =>
  ∃ v,e = .returned v∧TokSl w'.heap.size w' l v∧Below w.heap.size w w':=by
 have HC:=Lib.hid (rlex_calls w s hm f0 l hl hlen)
 have HK:=Lib.hid (rlexB_ok f0 s.data.toList 1 false l (by rw [← size_len];exact hm) (by rw [← size_len];omega) hl)
 clear hl
 go_enter Tryz.func23,Tryz.ntmps23
 go_wp2_with fail
 refine HC.out.mono ?_
 rintro e w' ⟨A,cap,rfl,hown,hb⟩
 have HT:=Lib.hid (own_toks hown rfl (by omega) HK.out)
 have HB:=Lib.hid hb
 clear hown hb
 go_wp2
 go_ret
 exact ⟨_,rfl,HT.out,HB.out⟩
def cut2 (s:ByteArray):ByteArray:=⟨(s.data.toList.take 2000).toArray⟩
theorem cut2_list (s:ByteArray):(cut2 s).data.toList=s.data.toList.take 2000:=rfl
theorem cut2_size (s:ByteArray):(cut2 s).size≤2000:=by
 rw [size_len,cut2_list,List.length_take]
 omega
set_option maxHeartbeats 400000 in
theorem cut2_calls (w:World) (s:ByteArray) (hs:s.size≤maxLen):Calls Tryz.prog 15 #[.string s] w fun e w'=>e = .returned (.string (cut2 s))∧w=w':=by
 unfold maxLen at hs
 by_cases h:s.size≤2000
 ·have hm:min (s.size:Int) 2000=(s.size:Int):=by omega
  have HE:Hid (s=cut2 s):=Lib.hid (bs_ext (by rw [cut2_list,List.take_of_length_le (by rw [← size_len];omega)]))
  go_enter Tryz.func15,Tryz.ntmps15
  go_wp2
  go_ret
  exact ⟨(congrArg (fun z=>Ending.returned (Value.string z)) HE.out).trans rfl,rfl⟩
 ·have hm:min (s.size:Int) 2000=2000:=by omega
  have HE:Hid (s.extract 0 2000=cut2 s):=Lib.hid (bs_ext (by rw [extract_take,cut2_list]))
  have hle:2000≤s.size:=by omega
  go_enter Tryz.func15,Tryz.ntmps15
  go_wp2
  go_ret
  exact ⟨by rw [← HE.out];rfl,rfl⟩
end
section
open Go.RowKit Go.Sort
theorem join_flat : ∀ (l:List (List UInt8)),Lib.join l []=l.flatten
 | []=>rfl
 | [x]=>by simp [Lib.join,List.intercalate]
 | x::y::l=>by
  have:=join_flat (y::l)
  simp only [Lib.join,List.intercalate] at this ⊢
  simp only [List.intersperse,List.flatten_cons,List.nil_append] at this ⊢
  rw [this]
theorem join_at (w0:World) (xs:List ByteArray) (hN:xs.length≤1000) (hlen:(xs.map (·.data.toList)).flatten.length≤140737488355328) :
  Calls Tryz.prog 67 #[.slice (some ⟨w0.heap.size,0,none⟩) xs.length xs.length] (w0.alloc (.cells ((xs.map Value.string).toArray) 9))
   fun e w'=>e = .returned (.string ⟨((xs.map (·.data.toList)).flatten).toArray⟩)∧Below w0.heap.size w0 w':=by
 have HB:=Lib.hid ((Below.refl w0.heap.size w0).alloc (Nat.le_refl _) (.cells ((xs.map Value.string).toArray) 9))
 have HJ:=Lib.hid (Tryz.strings_Join w0.heap.size 0 xs.length xs ⟨#[]⟩ (w0.alloc (.cells ((xs.map Value.string).toArray) 9))
  (fun j x hx=>by
   rw [cell_of_row _ _ _ _ _ (0,0) (heap_alloc_new _ _)]
   simp [hx]) (by simp) (by omega) (Nat.le_refl _) (by rw [show (⟨#[]⟩:ByteArray).data.toList=[] from rfl,join_flat];exact hlen))
 have HJF:=Lib.hid (join_flat (xs.map (·.data.toList)))
 generalize w0.alloc (.cells ((xs.map Value.string).toArray) 9)=w1 at HB HJ ⊢
 go_enter Tryz.func67,Tryz.ntmps67
 go_wp2_with fail
 refine HJ.out.mono ?_
 rintro e w' ⟨rfl,hb⟩
 have HB':=Lib.hid (HB.out.trans (hb.mono HB.out.size))
 clear hb
 go_wp2
 go_ret
 exact ⟨by rw [← HJF.out];rfl,HB'.out⟩
def ExprT (h:Nat) (u:Tree) (i:ByteArray):Prop := ∀ (d:Nat) (w:World) (sl:Value),Laid w→Kids w d u.l sl →
 Calls Tryz.prog 39 #[.agg #[.int .i64 u.op,.string u.s,.int .i64 u.n,sl,.int .i64 u.line],.string i] w fun e w'=>e = .returned (.string ⟨(T h u i.data.toList).toArray⟩)∧Below w.heap.size w w'
structure Held (w:World) (nb ib:Nat) (t:Tree) (A:Option Addr) (c:Nat) (i:ByteArray):Prop where
 node:Blk5 w nb t.op t.s t.n (.slice A t.l.length c) t.line
 margin:w.cell? ⟨ib,0,none⟩=some (.string i)
theorem Held.below {w w':World} {nb ib:Nat} {t:Tree} {A:Option Addr} {c:Nat} {i:ByteArray} (h:Held w nb ib t A c i) (hb:Below w.heap.size w w'):Held w' nb ib t A c i :=
 ⟨h.node.keep hb,cell_bel hb h.margin⟩
set_option maxRecDepth 100000 in
set_option maxHeartbeats 1000000 in
theorem at_calls (w:World) (nb ib:Nat) (t:Tree) (A:Option Addr) (c:Nat) (i:ByteArray) (hh:Held w nb ib t A c i) (hl:Laid w) (d:Nat) (hk:Kids w d t.l (.slice A t.l.length c)) (k:Nat) (u:Tree) (hu:t.l[k]? = some u) (h:Nat) (hc:ExprT h u i) :
  Calls Tryz.prog 70 #[.int .i64 k,.pointer (some ⟨nb,0,none⟩),.pointer (some ⟨ib,0,none⟩)] w fun e w'=>e = .returned (.string ⟨(T h u i.data.toList).toArray⟩)∧Below w.heap.size w w':=by
 obtain ⟨p,su,d1,_,rfl,hpu,hku,_⟩:=hk.at_ hu
 obtain ⟨_,A3,c3,rfl⟩:=hku.form
 have hkl:k<t.l.length:=(List.getElem?_eq_some_iff.1 hu).1
 obtain ⟨c0,c1,c2,c3',c4⟩:=hh.node
 have m0:=hh.margin
 obtain ⟨a0,a1,a2,a3,a4⟩:=hpu
 have hd:Below w.heap.size w w.drew:=(Below.refl _ _).drew
 have HC:=Lib.hid (hc d1 w.drew _ (hl.below hd) (hku.below hd))
 clear hku hd hc hh hk hl hu
 go_enter Tryz.func70,Tryz.ntmps70
 go_wp2
 go_still_tail 6,(by kernel_rfl)
 change wpList _ _ _ _ _ w.drew
 go_wp2_with fail
 refine HC.out.mono ?_
 rintro e w' ⟨rfl,hb⟩
 have HB:=Lib.hid ((Below.refl _ _).drew.trans hb:Below w.heap.size w w')
 clear hb
 go_wp2
 go_ret
 exact ⟨rfl,HB.out⟩
set_option maxRecDepth 100000 in
set_option maxHeartbeats 1000000 in
theorem ats_calls (w:World) (nb ib:Nat) (t:Tree) (A:Option Addr) (c:Nat) (i:ByteArray) (hh:Held w nb ib t A c i) (hl:Laid w) (d:Nat) (hk:Kids w d t.l (.slice A t.l.length c)) (k:Nat) (u:Tree) (hu:t.l[k]? = some u) (h:Nat) (hc:ExprT h u i) :
  Calls Tryz.prog 110 #[.int .i64 k,.pointer (some ⟨nb,0,none⟩),.pointer (some ⟨ib,0,none⟩)] w fun e w'=>e = .returned (.string ⟨(T h u i.data.toList).toArray⟩)∧Below w.heap.size w w':=by
 obtain ⟨p,su,d1,_,rfl,hpu,hku,_⟩:=hk.at_ hu
 obtain ⟨_,A3,c3,rfl⟩:=hku.form
 have hkl:k<t.l.length:=(List.getElem?_eq_some_iff.1 hu).1
 obtain ⟨c0,c1,c2,c3',c4⟩:=hh.node
 have m0:=hh.margin
 obtain ⟨a0,a1,a2,a3,a4⟩:=hpu
 have hd:Below w.heap.size w w.drew:=(Below.refl _ _).drew
 have HC:=Lib.hid (hc d1 w.drew _ (hl.below hd) (hku.below hd))
 clear hku hd hc hh hk hl hu
 go_enter Tryz.func110,Tryz.ntmps110
 go_wp2
 go_still_tail 6,(by kernel_rfl)
 change wpList _ _ _ _ _ w.drew
 go_wp2_with fail
 refine HC.out.mono ?_
 rintro e w' ⟨rfl,hb⟩
 have HB:=Lib.hid ((Below.refl _ _).drew.trans hb:Below w.heap.size w w')
 clear hb
 go_wp2
 go_ret
 exact ⟨rfl,HB.out⟩
end
section
open Go.RowKit Go.Sort
def StmtT (h:Nat) (u:Tree) (i:ByteArray):Prop := ∀ (d:Nat) (w:World) (sl:Value),Laid w→Kids w d u.l sl →
 Calls Tryz.prog 68 #[.agg #[.int .i64 u.op,.string u.s,.int .i64 u.n,sl,.int .i64 u.line],.string i] w fun e w'=>e = .returned (.string ⟨(T h u i.data.toList).toArray⟩)∧Below w.heap.size w w'
theorem bs_size (l:List UInt8):(⟨l.toArray⟩:ByteArray).size=l.length:=List.size_toArray ..
theorem lines_split (R:Tree→List UInt8→List UInt8) (l:List Tree) (i:List UInt8) (k:Nat):linesL R l i=linesL R (l.take k) i++linesL R (l.drop k) i:=by
 unfold linesL
 rw [← List.flatMap_append,List.take_append_drop]
theorem lines_next {R:Tree→List UInt8→List UInt8} {l:List Tree} {i:List UInt8} {k:Nat} {u:Tree} (h:l[k]? = some u):linesL R (l.take (k+1)) i=linesL R (l.take k) i++(i++R u i++[10]):=by
 unfold linesL
 rw [List.take_add_one,h,List.flatMap_append]
 simp
set_option maxRecDepth 100000 in
set_option maxHeartbeats 2000000 in
theorem lines_calls (h:Nat) (l:List Tree) (i:ByteArray) (hc : ∀ u,u ∈ l→StmtT h u i) (hT:(linesL (T h) l i.data.toList).length≤140737488355328) (d:Nat) (w:World) (sl:Value) (hl:Laid w) (hk:Kids w d l sl) :
  Calls Tryz.prog 36 #[sl,.string i] w fun e w'=>e = .returned (.string ⟨(linesL (T h) l i.data.toList).toArray⟩)∧Below w.heap.size w w':=by
 obtain ⟨hlen,A,c,rfl⟩:=hk.form
 unfold maxLen at hlen
 have HN:=Lib.hid (Bld.new w)
 have HC:=Lib.hid hc
 have HT:=Lib.hid hT
 have HL:=Lib.hid hl
 have HK:=Lib.hid hk
 clear hc hT hl hk
 go_enter Tryz.func36,Tryz.ntmps36
 go_wp2
 go_loopw [10] (fun n wr => ∃ k:Nat,k≤l.length∧n = .int .i64 k∧Bld w (linesL (T h) (l.take k) i.data.toList) wr) (fun n _=>l.length-(intOf n).toNat)
 case atStart=>exact ⟨0,by omega,rfl,HN.out⟩
 case round =>
  obtain ⟨k,hkl,rfl,hb⟩:=hrel
  have HB:=Lib.hid hb
  clear hb
  by_cases hlt:k<l.length
  ·have hu:l[k]? = some l[k]:=List.getElem?_eq_getElem hlt
   generalize l[k]=u at hu
   obtain ⟨p,su,d1,hd1,rfl,hpu,hku,_⟩:=HK.out.at_ hu
   obtain ⟨_,A3,c3,rfl⟩:=hku.form
   have HCU:=Lib.hid (HC.out u (List.mem_of_getElem? hu))
   have HKU:=Lib.hid hku
   have HNX:=Lib.hid (lines_next (R:=T h) (i:=i.data.toList) hu)
   have hroom:(linesL (T h) (l.take (k+1)) i.data.toList).length≤140737488355328:=by
    have h1:=congrArg List.length (lines_split (T h) l i.data.toList (k+1))
    rw [List.length_append] at h1
    have:=HT.out
    omega
   rw [HNX.out,List.length_append] at hroom
   have HR:=Lib.hid hroom
   obtain ⟨a0,a1,a2,a3,a4⟩:=hpu.below HB.out.low
   clear hu hpu hku hroom
   go_wp2_with fail
   have hb8:Below wr.heap.size wr (wr.alloc (.cells #[.int .i64 u.op,.string u.s,.int .i64 u.n,.slice A3 u.l.length c3,.int .i64 u.line] 29)):=(Below.refl _ _).alloc (Nat.le_refl _) _
   generalize wr.alloc (.cells #[.int .i64 u.op,.string u.s,.int .i64 u.n,.slice A3 u.l.length c3,.int .i64 u.line] 29)=w8 at hb8 ⊢
   have HB8:=Lib.hid (HB.out.below hb8)
   clear hb8 a0 a1 a2 a3 a4
   refine (HCU.out d1 w8 _ (HL.out.below HB8.out.low) (HKU.out.below HB8.out.low)).mono ?_
   rintro e w9 ⟨rfl,hb9⟩
   have HB9:=Lib.hid (HB8.out.below hb9)
   clear hb9
   have HJ0:=Lib.hid (fun w5:World=>join_at w5 [i,⟨(T h u i.data.toList).toArray⟩,⟨#[10]⟩] (by simp) (by have:=HR.out;simp only [List.map_cons,List.map_nil,List.flatten_cons,List.flatten_nil,List.append_nil] at this ⊢;rw [List.append_assoc] at this;omega))
   have hfe:(([i,⟨(T h u i.data.toList).toArray⟩,⟨#[10]⟩]:List ByteArray).map (·.data.toList)).flatten=i.data.toList++T h u i.data.toList++[10]:=by simp
   rw [hfe] at HJ0
   have HR2:=Lib.hid (show (linesL (T h) (l.take k) i.data.toList).length+(⟨(i.data.toList++T h u i.data.toList++[10]).toArray⟩:ByteArray).size≤140737488355328 from by rw [bs_size];exact HR.out)
   clear hfe
   generalize i.data.toList++T h u i.data.toList++[10]=Y at HJ0 HR2 HNX
   go_wp2_with fail
   refine (HJ0.out w9).mono ?_
   rintro e w5 ⟨rfl,hb5⟩
   have HB5:=Lib.hid (HB9.out.below hb5)
   clear hb5 HJ0
   go_wp2_with fail
   refine (HB5.out.text ⟨Y.toArray⟩ HR2.out).mono ?_
   rintro e w6 ⟨⟨v,rfl⟩,hb6⟩
   have HB6:=Lib.hid hb6
   clear hb6
   go_wp2
   go_roundw
   case rel=>exact ⟨k+1,by omega,by go_num,by rw [HNX.out];exact HB6.out⟩
   case measure=>simp [intOf];omega
  ·obtain rfl:k=l.length:=by omega
   have hdd:decide ((l.length:Int)<(l.length:Int))=false:=by simp
   have HE:Hid (linesL (T h) (l.take l.length) i.data.toList=linesL (T h) l i.data.toList):=Lib.hid (by rw [List.take_length])
   go_wp2_with fail
   refine HB.out.told.mono ?_
   rintro e w3 ⟨rfl,hb3⟩
   have HB3:=Lib.hid hb3
   clear hb3
   go_wp2
   go_ret
   exact ⟨by rw [← HE.out];rfl,HB3.out⟩
end
section
open Go.RowKit Go.Sort
theorem bytes_ext {a b:ByteArray} (h:a.data.toList=b.data.toList):a=b:=by
 cases a;cases b
 simp at h
 subst h
 rfl
set_option maxRecDepth 100000 in
set_option maxHeartbeats 2000000 in
theorem stext_31 (h:Nat) (t a:Tree) (i:ByteArray) (hop:t.op=31) (hta:t.l=[a]) (hca:ExprT h a i) (hT:(T (h+1) t i.data.toList).length≤140737488355328):StmtT (h+1) t i:=by
 intro d w sl hl hk
 obtain ⟨hlen,A,c,rfl⟩:=hk.form
 unfold maxLen at hlen
 have HFL:Hid (T (h+1) t i.data.toList=T h a i.data.toList++[59]):=Lib.hid (by simp [T,stepT,hop,hta])
 rw [hop]
 have hopw : ∀ v:Value,Value.int .i64 t.op=v→v = .int .i64 31:=fun v e=>by rw [← e,hop]
 clear hopw
 obtain ⟨w0,hw0⟩ : ∃ w0,w.alloc (.cells #[.int .i64 31,.string t.s,.int .i64 t.n,.slice A t.l.length c,.int .i64 t.line] 29)=w0:=⟨_,rfl⟩
 obtain ⟨w1,hw1⟩ : ∃ w1,w0.alloc (.cells #[.string i] 9)=w1:=⟨_,rfl⟩
 have bx0:Blk5 w0 w.heap.size 31 t.s t.n (.slice A t.l.length c) t.line:=by rw [← hw0];exact blk5_new _ _ _ _ _ _
 have hb0:Below w.heap.size w w0:=by rw [← hw0];exact (Below.refl _ _).alloc (Nat.le_refl _) _
 have hb1:Below w0.heap.size w0 w1:=by rw [← hw1];exact (Below.refl _ _).alloc (Nat.le_refl _) _
 have hm:w1.cell? ⟨w0.heap.size,0,none⟩=some (.string i):=by rw [← hw1];exact cell_of_row _ _ 0 #[.string i] 9 (0,0) (heap_alloc_new _ _)
 have bx:=bx0.keep hb1
 have HB:=Lib.hid (hb0.trans (hb1.mono hb0.size))
 have hhd:Held w1 w.heap.size w0.heap.size t A c i:=⟨by rw [hop];exact bx,hm⟩
 have HH:=Lib.hid hhd
 have HL:=Lib.hid (hl.below HB.out)
 have HK:=Lib.hid (hk.below HB.out)
 have HAa:=Lib.hid (ats_calls w1 w.heap.size w0.heap.size t A c i HH.out HL.out d HK.out 0 a (by rw [hta];rfl) h hca)
 rw [HFL.out,List.length_append] at hT
 have hXs:(⟨(T h a i.data.toList).toArray⟩:ByteArray).size+1≤140737488355328:=by rw [bs_size];exact hT
 have hXl:(⟨(T h a i.data.toList).toArray⟩:ByteArray).data.toList=T h a i.data.toList:=rfl
 obtain ⟨c0,c1,c2,c3,c4⟩:=bx
 clear bx0 hb0 hb1 hl hk hhd hT hop hta hca
 generalize T h a i.data.toList=Xa at HAa HFL hXs hXl
 generalize (⟨Xa.toArray⟩:ByteArray)=Xb at HAa hXs hXl
 have HXL:=Lib.hid hXl
 clear hXl
 go_enter Tryz.func68,Tryz.ntmps68
 go_wp2_with fail
 refine HAa.out.mono ?_
 rintro e v0 ⟨rfl,hb⟩
 have HBV:=Lib.hid hb
 clear hb
 go_wp2
 go_ret
 refine ⟨?_,HB.out.trans (HBV.out.mono HB.out.size)⟩
 rw [HFL.out,← HXL.out]
 exact congrArg (fun z=>Ending.returned (Value.string z)) (bytes_ext (by simp))
set_option maxRecDepth 100000 in
set_option maxHeartbeats 2000000 in
theorem text_11_none (h:Nat) (t:Tree) (i:ByteArray) (hop:t.op=11) (hta:t.l=[]):ExprT (h+1) t i:=by
 intro d w sl hl hk
 obtain ⟨hlen,A,c,rfl⟩:=hk.form
 unfold maxLen at hlen
 have HFL:Hid ((([⟨#[40,123]⟩,⟨#[]⟩,⟨#[125,41]⟩]:List ByteArray).map (·.data.toList)).flatten=T (h+1) t i.data.toList):=Lib.hid (by simp [T,stepT,hop,hta,Lib.join,List.intercalate])
 have HJ:Hid (∀ w9:World,Calls Tryz.prog 67 #[.slice (some ⟨w9.heap.size,0,none⟩) 3 3] (w9.alloc (.cells #[.string ⟨#[40,123]⟩,.string ⟨#[]⟩,.string ⟨#[125,41]⟩] 9)) fun e w'=>e = .returned (.string ⟨(T (h+1) t i.data.toList).toArray⟩)∧Below w9.heap.size w9 w'):=Lib.hid fun w9=>by
  have:=join_at w9 [⟨#[40,123]⟩,⟨#[]⟩,⟨#[125,41]⟩] (by simp) (by simp)
  rw [HFL.out] at this
  exact this
 have hz:t.l.length=0:=by rw [hta];rfl
 rw [hop,hz]
 rw [hz] at hk
 have hopw : ∀ v:Value,Value.int .i64 t.op=v→v = .int .i64 11:=fun v e=>by rw [← e,hop]
 clear hopw
 obtain ⟨w0,hw0⟩ : ∃ w0,w.alloc (.cells #[.int .i64 11,.string t.s,.int .i64 t.n,.slice A 0 c,.int .i64 t.line] 29)=w0:=⟨_,rfl⟩
 obtain ⟨w1,hw1⟩ : ∃ w1,w0.alloc (.cells #[.string i] 9)=w1:=⟨_,rfl⟩
 have bx0:Blk5 w0 w.heap.size 11 t.s t.n (.slice A 0 c) t.line:=by rw [← hw0];exact blk5_new _ _ _ _ _ _
 have hb0:Below w.heap.size w w0:=by rw [← hw0];exact (Below.refl _ _).alloc (Nat.le_refl _) _
 have hb1:Below w0.heap.size w0 w1:=by rw [← hw1];exact (Below.refl _ _).alloc (Nat.le_refl _) _
 have hm:w1.cell? ⟨w0.heap.size,0,none⟩=some (.string i):=by rw [← hw1];exact cell_of_row _ _ 0 #[.string i] 9 (0,0) (heap_alloc_new _ _)
 have bx:=bx0.keep hb1
 have HB:=Lib.hid (hb0.trans (hb1.mono hb0.size))
 obtain ⟨c0,c1,c2,c3,c4⟩:=bx
 clear bx0 hb0 hb1 hl hk hop hta HFL hz
 go_enter Tryz.func39,Tryz.ntmps39
 go_wp2
 go_loopw [7,63] (fun q n wr => ∃ k:Nat,k=0∧q = .slice none 0 0∧n = .int .i64 k∧Below w1.heap.size w1 wr) (fun _ _ _=>0)
 case atStart=>exact ⟨0,rfl,rfl,rfl,Below.refl _ _⟩
 case round =>
  obtain ⟨k,rfl,rfl,rfl,hb⟩:=hrel
  have HB1:=Lib.hid hb
  clear hb
  go_wp2_with (first
   | (go_at_call 75;refine (Tryz.strings_Join_none _ _ _ _).mono ?_;rintro e w' ⟨rfl,rfl⟩)
   | (go_at_call 67;  refine (HJ.out _).mono ?_;rintro e wz ⟨rfl,hb⟩;have HBZ:=Lib.hid hb;clear hb))
  go_ret
  exact ⟨rfl,HB.out.trans ((HB1.out.trans (HBZ.out.mono HB1.out.size)).mono HB.out.size)⟩
def linesP (t:Tree):List UInt8:=linesL (T 99) t.l []
set_option maxRecDepth 100000 in
set_option maxHeartbeats 1000000 in
theorem show_calls (t:Tree) (hc:rightB t=true → ∀ u,u ∈ t.l→StmtT 99 u ⟨#[]⟩) (hT:rightB t=true→(linesP t).length≤140737488355328) (d:Nat) (w:World) (sl:Value) (hl:Laid w) (hk:Kids w d t.l sl) (hok:t.ok) :
  Calls Tryz.prog 18 #[.agg #[.int .i64 t.op,.string t.s,.int .i64 t.n,sl,.int .i64 t.line]] w fun e w' =>
   e = .returned (if rightB t then .tuple #[.string ⟨(linesP t).toArray⟩,.int .i64 0] else .tuple #[.string ⟨#[]⟩,.int .i64 30])∧Below w.heap.size w w':=by
 obtain ⟨_,A,c,rfl⟩:=hk.form
 obtain ⟨w0,hw0⟩ : ∃ w0,w.alloc (.cells #[.int .i64 t.op,.string t.s,.int .i64 t.n,.slice A t.l.length c,.int .i64 t.line] 29)=w0:=⟨_,rfl⟩
 have bx:Blk5 w0 w.heap.size t.op t.s t.n (.slice A t.l.length c) t.line:=by rw [← hw0];exact blk5_new _ _ _ _ _ _
 have hb0:Below w.heap.size w w0:=by rw [← hw0];exact (Below.refl _ _).alloc (Nat.le_refl _) _
 have HB0:=Lib.hid hb0
 have HX:=Lib.hid bx
 have HL:=Lib.hid (hl.below hb0)
 have HK:=Lib.hid (hk.below hb0)
 have HR:=Lib.hid (right_calls d w0 t _ HL.out HK.out hok)
 have HC:=Lib.hid hc
 have HT:=Lib.hid hT
 obtain ⟨c0,c1,c2,c3,c4⟩:=bx
 clear hb0 hl hk hok hc hT
 cases hr:rightB t with
 | false =>
  rw [hr] at HR
  go_enter Tryz.func18,Tryz.ntmps18
  go_wp2_with (go_at_call 17;refine HR.out.mono ?_;rintro e w1 ⟨rfl,hb⟩;have HB1:=Lib.hid hb;clear hb)
  go_ret2
  exact ⟨rfl,HB0.out.trans (HB1.out.mono HB0.out.size)⟩
 | true =>
  have HLN:=Lib.hid (fun (w9:World) (hb9:Below w0.heap.size w0 w9)=>lines_calls 99 t.l ⟨#[]⟩ (HC.out hr) (HT.out hr) d w9 _ (HL.out.below hb9) (HK.out.below hb9))
  rw [hr] at HR
  clear hr
  go_enter Tryz.func18,Tryz.ntmps18
  go_wp2_with fail
  refine HR.out.mono ?_
  rintro e w1 ⟨rfl,hb⟩
  have HB1:=Lib.hid hb
  clear hb c0 c1 c2 c3 c4
  obtain ⟨c0,c1,c2,c3,c4⟩:=HX.out.keep HB1.out
  go_wp2_with fail
  refine (HLN.out w1 HB1.out).mono ?_
  rintro e w2 ⟨rfl,hb⟩
  have HB2:=Lib.hid hb
  clear hb
  go_wp2
  go_ret2
  exact ⟨rfl,HB0.out.trans ((HB1.out.trans (HB2.out.mono HB1.out.size)).mono HB0.out.size)⟩
set_option maxRecDepth 100000 in
set_option maxHeartbeats 1000000 in
theorem showExpr_calls (t:Tree) (hc:rightE t=true→ExprT 100 t ⟨#[]⟩) (d:Nat) (w:World) (sl:Value) (hl:Laid w) (hk:Kids w d t.l sl) (hok:t.ok) :
  Calls Tryz.prog 21 #[.agg #[.int .i64 t.op,.string t.s,.int .i64 t.n,sl,.int .i64 t.line]] w fun e w' =>
   e = .returned (if rightE t then .tuple #[.string ⟨(T 100 t []).toArray⟩,.int .i64 0] else .tuple #[.string ⟨#[]⟩,.int .i64 30])∧Below w.heap.size w w':=by
 obtain ⟨_,A,c,rfl⟩:=hk.form
 obtain ⟨w0,hw0⟩ : ∃ w0,w.alloc (.cells #[.int .i64 t.op,.string t.s,.int .i64 t.n,.slice A t.l.length c,.int .i64 t.line] 29)=w0:=⟨_,rfl⟩
 have bx:Blk5 w0 w.heap.size t.op t.s t.n (.slice A t.l.length c) t.line:=by rw [← hw0];exact blk5_new _ _ _ _ _ _
 have hb0:Below w.heap.size w w0:=by rw [← hw0];exact (Below.refl _ _).alloc (Nat.le_refl _) _
 have HB0:=Lib.hid hb0
 have HX:=Lib.hid bx
 have HL:=Lib.hid (hl.below hb0)
 have HK:=Lib.hid (hk.below hb0)
 have HR:=Lib.hid (rightExpr_calls d w0 t _ HL.out HK.out hok)
 have HC:=Lib.hid hc
 obtain ⟨c0,c1,c2,c3,c4⟩:=bx
 clear hb0 hl hk hok hc
 cases hr:rightE t with
 | false =>
  rw [hr] at HR
  go_enter Tryz.func21,Tryz.ntmps21
  go_wp2_with (go_at_call 13;refine HR.out.mono ?_;rintro e w1 ⟨rfl,hb⟩;have HB1:=Lib.hid hb;clear hb)
  go_ret2
  exact ⟨rfl,HB0.out.trans (HB1.out.mono HB0.out.size)⟩
 | true =>
  have HLN:=Lib.hid (fun (w9:World) (hb9:Below w0.heap.size w0 w9)=>HC.out hr d w9 _ (HL.out.below hb9) (HK.out.below hb9))
  rw [hr] at HR
  clear hr
  go_enter Tryz.func21,Tryz.ntmps21
  go_wp2_with fail
  refine HR.out.mono ?_
  rintro e w1 ⟨rfl,hb⟩
  have HB1:=Lib.hid hb
  clear hb c0 c1 c2 c3 c4
  obtain ⟨c0,c1,c2,c3,c4⟩:=HX.out.keep HB1.out
  go_wp2_with fail
  refine (HLN.out w1 HB1.out).mono ?_
  rintro e w2 ⟨rfl,hb⟩
  have HB2:=Lib.hid hb
  clear hb
  go_wp2
  go_ret2
  exact ⟨rfl,HB0.out.trans ((HB1.out.trans (HB2.out.mono HB1.out.size)).mono HB0.out.size)⟩
end
section
open Go.RowKit Go.Sort
def sh1:List UInt8:=[97,46,98,32,61,32,99,32,43,32,49]
def sh2:List UInt8:=[97,10,119,105,116,104,32,40,98,41,32,99]
def sh3:List UInt8:=[47,97,47]
def sh1T:List Tl:=[⟨⟨1,[97],0⟩,1,false⟩,⟨⟨5,[46],0⟩,1,false⟩,⟨⟨1,[98],0⟩,1,false⟩,⟨⟨5,[61],0⟩,1,false⟩,⟨⟨1,[99],0⟩,1,false⟩,⟨⟨5,[43],0⟩,1,false⟩,⟨⟨3,[],1⟩,1,false⟩]
def sh2T:List Tl:=[⟨⟨1,[97],0⟩,1,false⟩,⟨⟨2,[119,105,116,104],0⟩,2,true⟩,⟨⟨5,[40],0⟩,2,false⟩,⟨⟨1,[98],0⟩,2,false⟩,⟨⟨5,[41],0⟩,2,false⟩,⟨⟨1,[99],0⟩,2,false⟩]
def sh3T:List Tl:=[⟨⟨5,[47],0⟩,1,false⟩,⟨⟨1,[97],0⟩,1,false⟩,⟨⟨5,[47],0⟩,1,false⟩]
theorem sh1_lex:rlexB 20 sh1 1 false=some sh1T:=by kernel_rfl
theorem sh2_lex:rlexB 20 sh2 1 false=some sh2T:=by kernel_rfl
theorem sh3_lex:rlexB 20 sh3 1 false=some sh3T:=by kernel_rfl
def sh1P:Tree:=nd 32 [] [nd 31 [] [nd 17 [] [nd 13 [98] [nd 1 [97] [] 1] 1,nd 18 [43] [nd 1 [99] [] 1,.node 2 (bytesA []) 1 [] 1] 1] 1] 1] 1
theorem sh2_prog:progF 60 sh2T=some (.error (42,2)):=by kernel_rfl
theorem sh3_sole : ∃ k,soleF 60 sh3T=some (.error (44,k)):=⟨1,by kernel_rfl⟩
theorem sh1_prog:progF 60 sh1T=some (.ok (sh1P,[])):=by kernel_rfl
end
end Go.Proofs.YtjjdmiaonkailaaGreatDoor
