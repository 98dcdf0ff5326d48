/- Walks and plain laws, packed: ParD, Tests, Words, RlexA, Base. -/
import Derived.Test.YtjjdmiaonkailaaGreatDoorK03
import Derived.Test.YtjjdmiaonkailaaGreatDoorK02
import Derived.WalkKit
import Derived.WalkSpells
import Derived.WalkLawsBesides
import Derived.Maps.OwnOps
import Derived.Maps.OwnSet
import Derived.Maps.OwnIn
import Derived.Deep.Draws
import Derived.StringKeys
namespace Go.Proofs.YtjjdmiaonkailaaGreatDoor
section
open Go.RowKit
def fuel1 (l:List Tl):Nat:=if _h:l.length=0 then 19 else fuel1 l.tail+14
termination_by l.length
decreasing_by rw [List.length_tail];omega
theorem fuel1_eq : ∀ l:List Tl,fuel1 l=l.length*14+19
 | []=>by rw [fuel1];rfl
 | t::l=>by
  rw [fuel1,dif_neg (by simp),List.tail_cons,fuel1_eq l,List.length_cons]
  omega
def fixF (last:Nat):Fns where
 expr l:=(fns last (fuel1 l+1)).expr l
 cond l:=(fns last (fuel1 l+1)).cond l
 level n l:=(fns last (fuel1 l+1)).level n l
 more n x b l:=(fns last (fuel1 l+1)).more n x b l
 signed l:=(fns last (fuel1 l+1)).signed l
 chain l:=(fns last (fuel1 l+1)).chain l
 members b x l:=(fns last (fuel1 l+1)).members b x l
 thing l:=(fns last (fuel1 l+1)).thing l
 args a l:=(fns last (fuel1 l+1)).args a l
 pairs a l:=(fns last (fuel1 l+1)).pairs a l
 names a l:=(fns last (fuel1 l+1)).names a l
 rest l:=(fns last (fuel1 l+1)).rest l
 block l:=(fns last (fuel1 l+1)).block l
 stmts a l:=(fns last (fuel1 l+1)).stmts a l
 within l:=(fns last (fuel1 l+1)).within l
 stmt l:=(fns last (fuel1 l+1)).stmt l
 word s i l:=(fns last (fuel1 l+1)).word s i l
theorem le_top {α : Type} {x:Nat→Rd α} (hm : ∀ f g,f≤g→Le (x f) (x g)) {c:Nat} (ht:x c≠none) (f:Nat):Le (x f) (x c):=by
 intro z hz
 rcases Nat.le_total f c with h | h
 ·exact hm f c h z hz
 ·cases hc:x c with
  | none=>exact absurd hc ht
  | some y=>rw [hm c f h y hc] at hz;rw [← hz]
theorem level_high (last:Nat) : ∀ f n l,6<n→(fns last f).level n l=none
 | 0,_,_,_=>rfl
 | f+1,n,l,hn=>by
  show levelS (fns last f) n l=none
  unfold levelS
  rw [if_neg (by omega),level_high last f (n+1) l (by omega)]
  rfl
theorem more_high (last:Nat) (f n:Nat) (x:Tree) (b:Bool) (l:List Tl) (hn:5<n):(fns last (f+1)).more n x b l=if atF (signsN n) l then none else Rd.ok (x,b) l:=by
 show moreS last (fns last f) n x b l=_
 unfold moreS
 split
 ·rw [level_high last f (n+1) _ (by omega)]
  rfl
 ·rfl
variable {last:Nat}
theorem le_fix (last f:Nat):LeF (fns last f) (fixF last) where
 expr l:=le_top (x:=fun f=>(fns last f).expr l) (fun _ _ h=>(leFns_le last h).expr l) ((totFns last (fuel1 l+1)).expr l (by rw [fuel1_eq];omega)) f
 cond l:=le_top (x:=fun f=>(fns last f).cond l) (fun _ _ h=>(leFns_le last h).cond l) ((totFns last (fuel1 l+1)).cond l (by rw [fuel1_eq];omega)) f
 level n l:=by
  by_cases hn:n≤6
  ·exact le_top (x:=fun f=>(fns last f).level n l) (fun _ _ h=>(leFns_le last h).level n l) ((totFns last (fuel1 l+1)).level n l hn (by rw [fuel1_eq];omega)) f
  ·rw [level_high last f n l (by omega)]
   exact Le.none
 more n x b l:=by
  by_cases hn:n≤5
  ·exact le_top (x:=fun f=>(fns last f).more n x b l) (fun _ _ h=>(leFns_le last h).more n x b l) ((totFns last (fuel1 l+1)).more n x b l hn (by rw [fuel1_eq];omega)) f
  ·cases f with
   | zero=>exact Le.none
   | succ f =>
    have e:(fixF last).more n x b l=(fns last (fuel1 l+1)).more n x b l:=rfl
    rw [e,more_high last f n x b l (by omega),more_high last _ n x b l (by omega)]
    exact Le.refl _
 signed l:=le_top (x:=fun f=>(fns last f).signed l) (fun _ _ h=>(leFns_le last h).signed l) ((totFns last (fuel1 l+1)).signed l (by rw [fuel1_eq];omega)) f
 chain l:=le_top (x:=fun f=>(fns last f).chain l) (fun _ _ h=>(leFns_le last h).chain l) ((totFns last (fuel1 l+1)).chain l (by rw [fuel1_eq];omega)) f
 members b x l:=le_top (x:=fun f=>(fns last f).members b x l) (fun _ _ h=>(leFns_le last h).members b x l) ((totFns last (fuel1 l+1)).members b x l (by rw [fuel1_eq];omega)) f
 thing l:=le_top (x:=fun f=>(fns last f).thing l) (fun _ _ h=>(leFns_le last h).thing l) ((totFns last (fuel1 l+1)).thing l (by rw [fuel1_eq];omega)) f
 args a l:=le_top (x:=fun f=>(fns last f).args a l) (fun _ _ h=>(leFns_le last h).args a l) ((totFns last (fuel1 l+1)).args a l (by rw [fuel1_eq];omega)) f
 pairs a l:=le_top (x:=fun f=>(fns last f).pairs a l) (fun _ _ h=>(leFns_le last h).pairs a l) ((totFns last (fuel1 l+1)).pairs a l (by rw [fuel1_eq];omega)) f
 names a l:=le_top (x:=fun f=>(fns last f).names a l) (fun _ _ h=>(leFns_le last h).names a l) ((totFns last (fuel1 l+1)).names a l (by rw [fuel1_eq];omega)) f
 rest l:=le_top (x:=fun f=>(fns last f).rest l) (fun _ _ h=>(leFns_le last h).rest l) ((totFns last (fuel1 l+1)).rest l (by rw [fuel1_eq];omega)) f
 block l:=le_top (x:=fun f=>(fns last f).block l) (fun _ _ h=>(leFns_le last h).block l) ((totFns last (fuel1 l+1)).block l (by rw [fuel1_eq];omega)) f
 stmts a l:=le_top (x:=fun f=>(fns last f).stmts a l) (fun _ _ h=>(leFns_le last h).stmts a l) ((totFns last (fuel1 l+1)).stmts a l (by rw [fuel1_eq];omega)) f
 within l:=le_top (x:=fun f=>(fns last f).within l) (fun _ _ h=>(leFns_le last h).within l) ((totFns last (fuel1 l+1)).within l (by rw [fuel1_eq];omega)) f
 stmt l:=le_top (x:=fun f=>(fns last f).stmt l) (fun _ _ h=>(leFns_le last h).stmt l) ((totFns last (fuel1 l+1)).stmt l (by rw [fuel1_eq];omega)) f
 word s i l:=le_top (x:=fun f=>(fns last f).word s i l) (fun _ _ h=>(leFns_le last h).word s i l) ((totFns last (fuel1 l+1)).word s i l (by rw [fuel1_eq];omega)) f
theorem eq_of_le {α : Type} {x y:Rd α} (h:Le x y) (hx:x≠none):y=x:=by
 cases hc:x with
 | none=>exact absurd hc hx
 | some z=>exact h z hc
theorem fix_le (last:Nat) (f:Nat):LeF (fns last (f+1)) (stepFns last (fixF last)):=leStep (le_fix last f)
theorem okFix (last:Nat):OkFns last (fixF last) where
 expr l:=(okFns last (fuel1 l+1)).expr l
 cond l:=(okFns last (fuel1 l+1)).cond l
 level n l:=(okFns last (fuel1 l+1)).level n l
 more n x b l:=(okFns last (fuel1 l+1)).more n x b l
 signed l:=(okFns last (fuel1 l+1)).signed l
 chain l:=(okFns last (fuel1 l+1)).chain l
 members b x l:=(okFns last (fuel1 l+1)).members b x l
 thing l:=(okFns last (fuel1 l+1)).thing l
 args a l:=(okFns last (fuel1 l+1)).args a l
 pairs a l:=(okFns last (fuel1 l+1)).pairs a l
 names a l:=(okFns last (fuel1 l+1)).names a l
 rest l:=(okFns last (fuel1 l+1)).rest l
 block l:=(okFns last (fuel1 l+1)).block l
 stmts a l:=(okFns last (fuel1 l+1)).stmts a l
 within l:=(okFns last (fuel1 l+1)).within l
 stmt l:=(okFns last (fuel1 l+1)).stmt l
 word s i l:=(okFns last (fuel1 l+1)).word s i l
theorem fns_ext {F G:Fns} (h1:F.expr=G.expr) (h2:F.cond=G.cond) (h3:F.level=G.level) (h4:F.more=G.more) (h5:F.signed=G.signed) (h6:F.chain=G.chain) (h7:F.members=G.members) (h8:F.thing=G.thing)
  (h9:F.args=G.args) (h10:F.pairs=G.pairs) (h11:F.names=G.names) (h12:F.rest=G.rest) (h13:F.block=G.block) (h14:F.stmts=G.stmts) (h15:F.within=G.within) (h16:F.stmt=G.stmt) (h17:F.word=G.word):F=G:=by
 cases F
 cases G
 simp only at h1 h2 h3 h4 h5 h6 h7 h8 h9 h10 h11 h12 h13 h14 h15 h16 h17
 subst h1 h2 h3 h4 h5 h6 h7 h8 h9 h10 h11 h12 h13 h14 h15 h16 h17
 rfl
theorem fuel_succ (l:List Tl):fuelF l=fuel1 l+1:=by rw [fuel1_eq];rfl
theorem fix_eq (last:Nat):stepFns last (fixF last)=fixF last:=by
 apply fns_ext
 ·funext l;exact eq_of_le ((fix_le last (fuel1 l)).expr l) ((totFns last (fuel1 l+1)).expr l (by rw [fuel1_eq];omega))
 ·funext l;exact eq_of_le ((fix_le last (fuel1 l)).cond l) ((totFns last (fuel1 l+1)).cond l (by rw [fuel1_eq];omega))
 ·funext n l
  by_cases hn:n≤6
  ·exact eq_of_le ((fix_le last (fuel1 l)).level n l) ((totFns last (fuel1 l+1)).level n l hn (by rw [fuel1_eq];omega))
  ·show levelS (fixF last) n l=(fns last (fuel1 l+1)).level n l
   unfold levelS
   rw [level_high last _ n l (by omega),if_neg (by omega)]
   show Rd.bind ((fns last (fuel1 l+1)).level (n+1) l) _=none
   rw [level_high last _ (n+1) l (by omega)]
   rfl
 ·funext n x b l
  by_cases hn:n≤5
  ·exact eq_of_le ((fix_le last (fuel1 l)).more n x b l) ((totFns last (fuel1 l+1)).more n x b l hn (by rw [fuel1_eq];omega))
  ·show moreS last (fixF last) n x b l=(fns last (fuel1 l+1)).more n x b l
   rw [more_high last _ n x b l (by omega)]
   unfold moreS
   split
   ·show Rd.bind ((fns last (fuel1 l.tail+1)).level (n+1) l.tail) _=none
    rw [level_high last _ (n+1) _ (by omega)]
    rfl
   ·rfl
 ·funext l;exact eq_of_le ((fix_le last (fuel1 l)).signed l) ((totFns last (fuel1 l+1)).signed l (by rw [fuel1_eq];omega))
 ·funext l;exact eq_of_le ((fix_le last (fuel1 l)).chain l) ((totFns last (fuel1 l+1)).chain l (by rw [fuel1_eq];omega))
 ·funext b x l;exact eq_of_le ((fix_le last (fuel1 l)).members b x l) ((totFns last (fuel1 l+1)).members b x l (by rw [fuel1_eq];omega))
 ·funext l;exact eq_of_le ((fix_le last (fuel1 l)).thing l) ((totFns last (fuel1 l+1)).thing l (by rw [fuel1_eq];omega))
 ·funext a l;exact eq_of_le ((fix_le last (fuel1 l)).args a l) ((totFns last (fuel1 l+1)).args a l (by rw [fuel1_eq];omega))
 ·funext a l;exact eq_of_le ((fix_le last (fuel1 l)).pairs a l) ((totFns last (fuel1 l+1)).pairs a l (by rw [fuel1_eq];omega))
 ·funext a l;exact eq_of_le ((fix_le last (fuel1 l)).names a l) ((totFns last (fuel1 l+1)).names a l (by rw [fuel1_eq];omega))
 ·funext l;exact eq_of_le ((fix_le last (fuel1 l)).rest l) ((totFns last (fuel1 l+1)).rest l (by rw [fuel1_eq];omega))
 ·funext l;exact eq_of_le ((fix_le last (fuel1 l)).block l) ((totFns last (fuel1 l+1)).block l (by rw [fuel1_eq];omega))
 ·funext a l;exact eq_of_le ((fix_le last (fuel1 l)).stmts a l) ((totFns last (fuel1 l+1)).stmts a l (by rw [fuel1_eq];omega))
 ·funext l;exact eq_of_le ((fix_le last (fuel1 l)).within l) ((totFns last (fuel1 l+1)).within l (by rw [fuel1_eq];omega))
 ·funext l;exact eq_of_le ((fix_le last (fuel1 l)).stmt l) ((totFns last (fuel1 l+1)).stmt l (by rw [fuel1_eq];omega))
 ·funext s i l;exact eq_of_le ((fix_le last (fuel1 l)).word s i l) ((totFns last (fuel1 l+1)).word s i l (by rw [fuel1_eq];omega))
theorem progF_fix (l:List Tl):progF (fuelF l) l=allRead (lastF l) true (((fixF (lastF l)).stmts [] l).bind fun ps r => .ok (nd 32 [] ps (hereF (lastF l) l).line) r):=by rw [fuel_succ];rfl
theorem soleF_fix (l:List Tl):soleF (fuelF l) l=allRead (lastF l) false ((fixF (lastF l)).expr l):=by rw [fuel_succ];rfl
end
section
open Go.RowKit
theorem isNone_calls (w:World) (s:ByteArray):Calls Tryz.prog 54 #[.string s] w fun e w'=>e = .returned (.bool s.toList.isEmpty)∧w=w':=by
 go_enter Tryz.func54,Tryz.ntmps54
 go_wp2
 go_ret
 refine ⟨?_,rfl⟩
 simp
theorem isText_calls (w:World) (s:ByteArray):Calls Tryz.prog 55 #[.string s] w fun e w'=>e = .returned (.bool true)∧w=w':=by
 go_enter Tryz.func55,Tryz.ntmps55
 go_wp2
 go_ret
 exact ⟨rfl,rfl⟩
theorem isDigit_calls (w:World) (c:Int):Calls Tryz.prog 100 #[.int .u8 c] w fun e w'=>e = .returned (.bool (digitI c))∧w=w':=by
 by_cases h1:48≤c
 ·have f1:decide (48≤c)=true:=by simpa using h1
  go_enter Tryz.func100,Tryz.ntmps100
  go_wp2
  go_ret
  simp [digitI,f1]
 ·have f1:decide (48≤c)=false:=by simpa using h1
  go_enter Tryz.func100,Tryz.ntmps100
  go_wp2
  go_ret
  simp [digitI,f1]
theorem isLetter_calls (w:World) (c:Int):Calls Tryz.prog 88 #[.int .u8 c] w fun e w'=>e = .returned (.bool (letterI c))∧w=w':=by
 cases h1:decide (97≤c) <;> cases h2:decide (c≤122) <;> cases h3:decide (65≤c) <;> cases h4:decide (c≤90) <;> cases h5:(c==95) <;> cases h6:(c==36)
 all_goals
  first
  | (exfalso;simp at h1 h2 h3 h4 h5 h6;omega)
  | (go_enter Tryz.func88,Tryz.ntmps88
     go_wp2
     go_ret
     simp [letterI,h1,h2,h3,h4,h5,h6])
theorem rdigit_calls (w:World) (c:Int):Calls Tryz.prog 43 #[.int .u8 c] w fun e w'=>e = .returned (.bool (digitI c))∧w=w':=by
 by_cases h1:48≤c
 ·have f1:decide (48≤c)=true:=by simpa using h1
  go_enter Tryz.func43,Tryz.ntmps43
  go_wp2
  go_ret
  simp [digitI,f1]
 ·have f1:decide (48≤c)=false:=by simpa using h1
  go_enter Tryz.func43,Tryz.ntmps43
  go_wp2
  go_ret
  simp [digitI,f1]
theorem rletter_calls (w:World) (c:Int):Calls Tryz.prog 40 #[.int .u8 c] w fun e w'=>e = .returned (.bool (letterI c))∧w=w':=by
 cases h1:decide (97≤c) <;> cases h2:decide (c≤122) <;> cases h3:decide (65≤c) <;> cases h4:decide (c≤90) <;> cases h5:(c==95) <;> cases h6:(c==36)
 all_goals
  first
  | (exfalso;simp at h1 h2 h3 h4 h5 h6;omega)
  | (go_enter Tryz.func40,Tryz.ntmps40
     go_wp2
     go_ret
     simp [letterI,h1,h2,h3,h4,h5,h6])
theorem takeWhile_at {p:UInt8→Bool} : ∀ {l:List UInt8} {k:Nat},(∀ j,j<k → ∃ c,l[j]? = some c∧p c=true)→(l.length=k ∨ ∃ c,l[k]? = some c∧p c=false)→(l.takeWhile p).length=k
 | [],k,h,h'=>by
  cases k with
  | zero=>rfl
  | succ k=>obtain ⟨c,hc,_⟩:=h 0 (by omega);simp at hc
 | x::l,0,h,h'=>by
  rcases h' with h' | ⟨c,hc,hp⟩
  ·simp at h'
  ·simp at hc
   subst hc
   simp [List.takeWhile,hp]
 | x::l,k+1,h,h'=>by
  obtain ⟨c,hc,hp⟩:=h 0 (by omega)
  simp at hc
  subst hc
  simp only [List.takeWhile,hp,List.length_cons]
  rw [takeWhile_at (k:=k) (fun j hj=>by have:=h (j+1) (by omega);simpa using this) (by simpa using h')]
theorem byte_at {s:ByteArray} {k:Nat} {c:UInt8} (hk:k<s.size) (h:s.data.toList[k]? = some c):s[k]'hk=c:=by
 have:s.data.toList[k]? = some (s[k]'hk):=by
  rw [Array.getElem?_toList]
  exact Array.getElem?_eq_getElem hk
 rw [this] at h
 exact Option.some.inj h
theorem byte_some {s:ByteArray} {k:Nat} (hk:k<s.size):s.data.toList[k]? = some (s[k]'hk):=by
 rw [Array.getElem?_toList]
 exact Array.getElem?_eq_getElem hk
set_option maxHeartbeats 1000000 in
theorem names_calls (w:World) (s:ByteArray) (hs:s.size≤maxLen):Calls Tryz.prog 89 #[.string s] w fun e w'=>e = .returned (.int .i64 (namesB s.data.toList))∧w=w':=by
 unfold maxLen at hs
 go_enter Tryz.func89,Tryz.ntmps89
 go_wp2
 go_loopw [3] (fun i wr => ∃ k:Nat,k≤s.size∧i = .int .i64 k∧(∀ j,j<k → ∃ c,s.data.toList[j]? = some c∧partB8 c=true)∧wr=w) (fun i _=>s.size-(intOf i).toNat)
 case atStart=>exact ⟨0,by omega,rfl,fun j hj=>by omega,rfl⟩
 case round =>
  obtain ⟨k,hk,rfl,hal,rfl⟩:=hrel
  have HAL:=Lib.hid hal
  clear hal
  by_cases hlt:k<s.size
  ·have hc:=byte_some hlt
   have HC:=Lib.hid hc
   clear hc
   cases hl:letterI (s[k].toNat:Int) with
   | true =>
    go_wp2_with (go_at_call 88;refine (isLetter_calls _ _).mono ?_;rintro e w' ⟨rfl,rfl⟩)
    go_roundw
    case rel =>
     refine ⟨k+1,by omega,by go_num,fun j hj => ?_,by trivial⟩
     by_cases hjk:j<k
     ·exact HAL.out j hjk
     ·obtain rfl:j=k:=by omega
      exact ⟨_,HC.out,by simp [partB8,hl]⟩
    case measure=>simp [intOf];omega
   | false =>
    cases hd:digitI (s[k].toNat:Int) with
    | true =>
     go_wp2_with (first
      | (go_at_call 88;refine (isLetter_calls _ _).mono ?_;rintro e w' ⟨rfl,rfl⟩)
      | (go_at_call 100;refine (isDigit_calls _ _).mono ?_;rintro e w' ⟨rfl,rfl⟩))
     go_roundw
     case rel =>
      refine ⟨k+1,by omega,by go_num,fun j hj => ?_,by trivial⟩
      by_cases hjk:j<k
      ·exact HAL.out j hjk
      ·obtain rfl:j=k:=by omega
       exact ⟨_,HC.out,by simp [partB8,hd]⟩
     case measure=>simp [intOf];omega
    | false =>
     go_wp2_with (first
      | (go_at_call 88;refine (isLetter_calls _ _).mono ?_;rintro e w' ⟨rfl,rfl⟩)
      | (go_at_call 100;refine (isDigit_calls _ _).mono ?_;rintro e w' ⟨rfl,rfl⟩))
     go_ret
     exact ⟨by unfold namesB;rw [takeWhile_at HAL.out (.inr ⟨_,HC.out,by simp [partB8,hl,hd]⟩)];rfl,rfl⟩
  ·obtain rfl:k=s.size:=by omega
   have hdd:decide ((s.size:Int)<(s.size:Int))=false:=by simp
   go_wp2
   go_ret
   exact ⟨by unfold namesB;rw [takeWhile_at HAL.out (.inl (by simp))];rfl,rfl⟩
end
section
open Go.RowKit
theorem words_size:wordsText.size=187:=by decide +kernel
theorem fromAt_le : ∀ k,fromAt k≤k
 | 0=>Nat.le_refl _
 | k+1=>by
  simp only [fromAt]
  split
  ·exact Nat.le_refl _
  ·have:=fromAt_le k;omega
theorem words_facts : ∀ k:Fin 188,(endAt k.val=true→fromAt k.val<k.val∧(k.val<187→(wordsText.data.toList.getD k.val 0)=32)) ∧
  (endAt k.val=false→k.val<187∧(wordsText.data.toList.getD k.val 0)≠32∧(wordsText.data.toList.getD k.val 0).toNat<128):=by decide +kernel
theorem byte_getD {s:ByteArray} {k:Nat} (hk:k<s.size) (d:UInt8):s.data.toList.getD k d=s[k]'hk:=by
 rw [List.getD_eq_getElem?_getD,byte_some hk]
 rfl
theorem seen_mono {s:List UInt8} {k:Nat} : ∀ {m:Nat},k≤m→seenW s k=true→seenW s m=true
 | 0,h,hs=>by
  obtain rfl:k=0:=by omega
  exact hs
 | m+1,h,hs=>by
  by_cases hk:k=m+1
  ·subst hk;exact hs
  ·rw [seenW,seen_mono (m:=m) (by omega) hs];rfl
theorem seen_up {s:List UInt8} {k:Nat} (hk:k≤188) (h:seenW s k=true):wordB s=true:=by
 unfold wordB
 rw [words_size]
 exact seen_mono hk h
theorem beq_bytes (a b:ByteArray):(a.toList==b.toList)=decide (a.data.toList=b.data.toList):=by
 rw [ByteArray.toList_eq,ByteArray.toList_eq,Bool.eq_iff_iff]
 simp
theorem extract_list (l:ByteArray) (a b:Nat):(l.extract a b).data.toList=(l.data.toList.take b).drop a:=by
 rw [ByteArray.data_extract,Array.toList_extract,List.extract,List.drop_take]
theorem rwords_calls (w:World):Calls Tryz.prog 77 #[] w fun e w'=>e = .returned (.string wordsText)∧w=w':=by
 go_enter Tryz.func77,Tryz.ntmps77
 go_wp2
 go_ret
 exact ⟨by kernel_rfl,rfl⟩
set_option maxRecDepth 100000 in
set_option maxHeartbeats 1000000 in
theorem risWord_calls (w:World) (s:ByteArray):Calls Tryz.prog 42 #[.string s] w fun e w'=>e = .returned (.bool (wordB s.data.toList))∧w=w':=by
 obtain ⟨l,hl⟩ : ∃ l,wordsText=l:=⟨_,rfl⟩
 have hsz:l.size=187:=by rw [← hl];exact words_size
 have HF:Hid (∀ k,k<188→(endAt k=true→fromAt k<k∧(k<187→(l.data.toList.getD k 0)=32)) ∧
  (endAt k=false→k<187∧(l.data.toList.getD k 0)≠32∧(l.data.toList.getD k 0).toNat<128)):=by
  refine Lib.hid fun k hk => ?_
  rw [← hl]
  exact words_facts ⟨k,hk⟩
 have HT:Hid (∀ k,wordTo k=(l.data.toList.take k).drop (fromAt k)):=Lib.hid fun k=>by rw [← hl];rfl
 have hrw:Hid (∀ w,Calls Tryz.prog 77 #[] w fun e w'=>e = .returned (.string l)∧w=w'):=Lib.hid fun w=>by rw [← hl];exact rwords_calls w
 clear hl
 go_enter Tryz.func42,Tryz.ntmps42
 go_wp2_with (go_at_call 77;refine (hrw.out _).mono ?_;rintro e w' ⟨rfl,rfl⟩)
 clear hrw
 go_loopw [4,5] (fun f i wr => ∃ k:Nat,k≤188∧i = .int .i64 k∧f = .int .i64 (fromAt k)∧seenW s.data.toList k=false∧wr=w) (fun _ i _=>189-(intOf i).toNat)
 case atStart=>exact ⟨0,by omega,rfl,rfl,rfl,rfl⟩
 case round =>
  obtain ⟨k,hk,rfl,rfl,hseen,rfl⟩:=hrel
  have HSEEN:=Lib.hid hseen
  clear hseen
  have hfl:=fromAt_le k
  have hnext:Hid (∀ b,endAt k=b→fromAt (k+1)=if b then k+1 else fromAt k):=Lib.hid fun b hb=>by rw [fromAt,hb]
  have hseenN:Hid (∀ b,endAt k=b→seenW s.data.toList (k+1)=(b&&decide (wordTo k=s.data.toList))):=Lib.hid fun b hb=>by rw [seenW,HSEEN.out,hb];rfl
  by_cases hlt:k<187
  ·have hlt':k<l.size:=by omega
   have hf:=HF.out k (by omega)
   rw [byte_getD hlt'] at hf
   cases he:endAt k with
   | true =>
    have hb:(((l[k]'hlt').toNat:Int) != 32)=false:=by rw [(hf.1 he).2 hlt];rfl
    have hN:=Lib.hid (hnext.out _ he)
    have hS:=Lib.hid (hseenN.out _ he)
    clear hf hnext hseenN
    have hcmp:=beq_bytes (l.extract (fromAt k) k) s
    rw [extract_list,← HT.out] at hcmp
    cases hd:decide (wordTo k=s.data.toList) with
    | true =>
     rw [hd] at hcmp
     have hT:Hid (wordB s.data.toList=true):=Lib.hid (seen_up (k:=k+1) (by omega) (by rw [hS.out,hd];rfl))
     clear hd
     go_wp2
     go_ret
     exact ⟨by rw [hT.out];rfl,rfl⟩
    | false =>
     rw [hd] at hcmp
     have hS':=Lib.hid (hS.out.trans (by rw [hd];rfl):seenW s.data.toList (k+1)=false)
     clear hd
     go_wp2
     go_roundw
     case rel=>exact ⟨k+1,by omega,by go_num,by rw [hN.out];go_num,hS'.out,by trivial⟩
     case measure=>simp [intOf];omega
   | false =>
    have hb:(((l[k]'hlt').toNat:Int) != 32)=true:=by
     rw [bne_iff_ne]
     intro hc
     exact (hf.2 he).2.1 (UInt8.toNat_inj.1 (show (l[k]'hlt').toNat=32 by omega))
    have hN:=Lib.hid (hnext.out _ he)
    have hS:=Lib.hid (hseenN.out _ he)
    clear hf hnext hseenN
    go_wp2
    go_roundw
    case rel=>exact ⟨k+1,by omega,by go_num,by rw [hN.out];rfl,by rw [hS.out];rfl,by trivial⟩
    case measure=>simp [intOf];omega
  ·by_cases hlt2:k=187
   ·subst hlt2
    have he:endAt 187=true:=by
     have:=HF.out 187 (by omega)
     cases he:endAt 187 with
     | true=>rfl
     | false=>exact absurd (this.2 he).1 (by omega)
    have hN:=Lib.hid (hnext.out _ he)
    have hS:=Lib.hid (hseenN.out _ he)
    clear hnext hseenN
    have hcmp:=beq_bytes (l.extract (fromAt 187) 187) s
    rw [extract_list,← HT.out] at hcmp
    have dd:decide ((187:Int)<187)=false:=by decide
    have de:decide ((187:Int)≤187)=true:=by decide
    cases hd:decide (wordTo 187=s.data.toList) with
    | true =>
     rw [hd] at hcmp
     have hT:Hid (wordB s.data.toList=true):=Lib.hid (seen_up (k:=187+1) (by omega) (by rw [hS.out,hd];rfl))
     clear hd
     go_wp2
     go_ret
     exact ⟨by rw [hT.out];rfl,rfl⟩
    | false =>
     rw [hd] at hcmp
     have hS':=Lib.hid (hS.out.trans (by rw [hd];rfl):seenW s.data.toList (187+1)=false)
     clear hd
     go_wp2
     go_roundw
     case rel=>exact ⟨187+1,by omega,by go_num,by rw [hN.out];go_num,hS'.out,by trivial⟩
     case measure=>simp [intOf]
   ·obtain rfl:k=188:=by omega
    have dd:decide ((188:Int)≤187)=false:=by decide
    have hT:Hid (wordB s.data.toList=false):=by
     refine Lib.hid ?_
     unfold wordB
     rw [words_size]
     exact HSEEN.out
    go_wp2
    go_ret
    exact ⟨by rw [hT.out];rfl,rfl⟩
end
section
open Go.RowKit
theorem tw_next {p:UInt8→Bool} : ∀ {l:List UInt8} {k:Nat} {b:UInt8},k≤(l.takeWhile p).length→l[k]? = some b→(p b=true→k+1≤(l.takeWhile p).length)∧(p b=false→k=(l.takeWhile p).length)
 | [],_,_,_,h=>by simp at h
 | c::l,0,b,_,h=>by
  have e:c=b:=by simpa using h
  subst e
  constructor
  ·intro hp
   simp [hp]
  ·intro hp
   simp [hp]
 | c::l,k+1,b,hk,h=>by
  cases hc:p c with
  | false=>simp [hc] at hk
  | true =>
   rw [List.takeWhile_cons,if_pos hc,List.length_cons] at hk ⊢
   have:=tw_next (p:=p) (l:=l) (k:=k) (b:=b) (by omega) (by simpa using h)
   exact ⟨fun hp=>by have:=this.1 hp;omega,fun hp=>by have:=this.2 hp;omega⟩
theorem tw_leR {p:UInt8→Bool} (l:List UInt8):(l.takeWhile p).length≤l.length:=(List.takeWhile_sublist p).length_le
def runP (all:Bool):UInt8→Bool:=if all then partB8 else digitB8
set_option maxRecDepth 100000 in
set_option maxHeartbeats 2000000 in
theorem rrun_calls (w:World) (s:ByteArray) (all:Bool) (hs:s.size≤65536):Calls Tryz.prog 41 #[.string s,.bool all] w fun e w'=>e = .returned (.int .i64 ((s.data.toList.takeWhile (runP all)).length:Nat))∧w=w':=by
 obtain ⟨N,hN⟩ : ∃ N,N=(s.data.toList.takeWhile (runP all)).length:=⟨_,rfl⟩
 have HNL:Hid (N≤s.size):=Lib.hid (by rw [hN];exact tw_leR _)
 have HST:Hid (∀ (k:Nat) (h:k<s.size),k≤N→(runP all (s[k]'h)=true→k+1≤N)∧(runP all (s[k]'h)=false→k=N)):=Lib.hid fun k h hk=>by
  rw [hN] at hk ⊢
  exact tw_next hk (byte_some h)
 rw [← hN]
 clear hN
 go_enter Tryz.func41,Tryz.ntmps41
 go_wp2
 go_loopw [5] (fun i wr => ∃ k:Nat,k≤N∧i = .int .i64 k∧wr=w) (fun i _=>65537-(intOf i).toNat)
 case atStart=>exact ⟨0,by omega,rfl,rfl⟩
 case round =>
  obtain ⟨k,hk,rfl,rfl⟩:=hrel
  have hkN:=HNL.out
  by_cases hlt:k<s.size
  ·obtain ⟨h1,h2⟩:=HST.out k hlt hk
   have HP1:=Lib.hid h1
   have HP2:=Lib.hid h2
   clear h1 h2
   cases hd:digitI ((s[k]'hlt).toNat:Int) with
   | true =>
    have hk1:k+1≤N:=HP1.out (by cases all <;> simp [runP,partB8,digitB8,hd])
    go_wp2_with (first | (go_at_call 43;refine (rdigit_calls _ _).mono ?_;rintro e w' ⟨rfl,rfl⟩;rw [hd]))
    go_roundw
    case rel=>exact ⟨k+1,hk1,by go_num,by trivial⟩
    case measure=>simp [intOf];omega
   | false =>
    cases all with
    | false =>
     have hk1:k=N:=HP2.out (by simp [runP,digitB8,hd])
     subst hk1
     go_wp2_with (first | (go_at_call 43;refine (rdigit_calls _ _).mono ?_;rintro e w' ⟨rfl,rfl⟩;rw [hd]))
     go_ret
     exact ⟨rfl,rfl⟩
    | true =>
     cases hl:letterI ((s[k]'hlt).toNat:Int) with
     | true =>
      have hk1:k+1≤N:=HP1.out (by simp [runP,partB8,hl])
      go_wp2_with (first | (go_at_call 43;refine (rdigit_calls _ _).mono ?_;rintro e w' ⟨rfl,rfl⟩;rw [hd]) | (go_at_call 40;refine (rletter_calls _ _).mono ?_;rintro e w' ⟨rfl,rfl⟩;rw [hl]))
      go_roundw
      case rel=>exact ⟨k+1,hk1,by go_num,by trivial⟩
      case measure=>simp [intOf];omega
     | false =>
      have hk1:k=N:=HP2.out (by simp [runP,partB8,hl,hd])
      subst hk1
      go_wp2_with (first | (go_at_call 43;refine (rdigit_calls _ _).mono ?_;rintro e w' ⟨rfl,rfl⟩;rw [hd]) | (go_at_call 40;refine (rletter_calls _ _).mono ?_;rintro e w' ⟨rfl,rfl⟩;rw [hl]))
      go_ret
      exact ⟨rfl,rfl⟩
  ·obtain rfl:k=N:=by omega
   have hdd:¬ (k:Int)<(s.size:Int):=by omega
   go_wp2
   go_ret
   exact ⟨rfl,rfl⟩
end
section
open Go.RowKit
structure Turn (F:Nat→Prop) (w w':World):Prop where
 os:w'.os=w.os
 tape:w'.tape=w.tape
 output:w'.output=w.output
 size:w.heap.size≤w'.heap.size
 block : ∀ k,k<w.heap.size→¬ F k→w'.heap[k]? = w.heap[k]?
theorem Turn.refl (F:Nat→Prop) (w:World):Turn F w w:=⟨rfl,rfl,rfl,Nat.le_refl _,fun _ _ _=>rfl⟩
theorem Turn.trans {F G:Nat→Prop} {a b c:World} (h:Turn F a b) (k:Turn G b c) (hG : ∀ i,i<a.heap.size→G i→F i):Turn F a c :=
 ⟨k.os.trans h.os,k.tape.trans h.tape,k.output.trans h.output,Nat.le_trans h.size k.size,fun i hi hf =>
  (k.block i (Nat.lt_of_lt_of_le hi h.size) (fun hg=>hf (hG i hi hg))).trans (h.block i hi hf)⟩
theorem Turn.mono {F G:Nat→Prop} {a b:World} (h:Turn F a b) (hG : ∀ i,i<a.heap.size→F i→G i):Turn G a b :=
 ⟨h.os,h.tape,h.output,h.size,fun i hi hf=>h.block i hi (fun hg=>hf (hG i hi hg))⟩
theorem Turn.drew {F:Nat→Prop} {a w:World} (h:Turn F a w):Turn F a w.drew:=⟨h.os,h.tape,h.output,h.size,h.block⟩
theorem Turn.drewN {F:Nat→Prop} {a w:World} (h:Turn F a w) (n:Nat):Turn F a (w.drewN n):=⟨h.os,h.tape,h.output,h.size,h.block⟩
theorem Turn.alloc {F:Nat→Prop} {a w:World} (h:Turn F a w) (o:Obj):Turn F a (w.alloc o) :=
 h.trans (G:=fun _=>False) ⟨rfl,rfl,rfl,by simp,fun k hk _=>Below.heap_alloc _ _ _ hk⟩ (fun _ _ x=>x.elim)
theorem Turn.setCell {F:Nat→Prop} {a w:World} (h:Turn F a w) {p:Addr} (hp:p.block<a.heap.size→F p.block) (u:Value):Turn F a (w.setCell p u) :=
 h.trans (G:=fun k=>k=p.block) ⟨rfl,rfl,rfl,by simp [World.setCell],fun k _ hk=>Below.heap_setCell _ _ _ _ hk⟩ (fun i hi e=>by subst e;exact hp hi)
theorem Turn.grown {F:Nat→Prop} {a w w':World} {row:Option Nat} (h:Turn F a w) (hg:w.grownBy w' row) (hr : ∀ k,k<a.heap.size→row=some k→F k):Turn F a w' :=
 h.trans (G:=fun k=>row=some k) ⟨hg.os,hg.tape,hg.output,hg.size,fun k hk hn=>hg.block k hk (fun e=>hn e.symm)⟩ hr
theorem Turn.below {F:Nat→Prop} {w w':World} {B:Nat} (h:Turn F w w') (hB:B≤w.heap.size) (hF : ∀ k,F k→B≤k):Below B w w' :=
 ⟨h.os,h.tape,h.output,h.size,fun k hk=>h.block k (by omega) (fun hf=>by have:=hF k hf;omega)⟩
theorem Turn.none_below {w w':World} (h:Turn (fun _=>False) w w'):Below w.heap.size w w':=h.below (Nat.le_refl _) (fun _ x=>x.elim)
theorem Turn.of_below {w w':World} (h:Below w.heap.size w w'):Turn (fun _=>False) w w':=⟨h.os,h.tape,h.output,h.size,fun k hk _=>h.block k hk⟩
def Blk (w:World) (g:Nat) (t:TypeId) (cs:Array Value):Prop:=w.heap[g]? = some (.cells cs t (0,0))
section
variable {w w':World} {g:Nat} {t:TypeId} {cs:Array Value}
theorem Blk.lt (h:Blk w g t cs):g<w.heap.size:=(Array.getElem?_eq_some_iff.1 h).1
theorem Blk.cell (h:Blk w g t cs) (i:Nat):w.cell? ⟨g,i,none⟩=cs[i]? := cell_of_row w g i cs t (0,0) h
theorem Blk.frozen (h:Blk w g t cs) (i:Nat):w.frozen? ⟨g,i,none⟩=false:=by
 unfold Blk at h
 simp [World.frozen?,h]
theorem Blk.new (w:World) (t:TypeId) (cs:Array Value):Blk (w.alloc (.cells cs t)) w.heap.size t cs:=heap_alloc_new w _
theorem Blk.set_ (h:Blk w g t cs) (i:Nat) (u:Value):Blk (w.setCell ⟨g,i,none⟩ u) g t (cs.setIfInBounds i u):=by
 unfold Blk at h ⊢
 simp [World.setCell,Array.getElem?_modify,h]
theorem Blk.keep (h:Blk w g t cs) (hk:w'.heap[g]? = w.heap[g]?):Blk w' g t cs:=hk.trans h
theorem Blk.alloc (h:Blk w g t cs) (o:Obj):Blk (w.alloc o) g t cs:=h.keep (Below.heap_alloc w o g h.lt)
theorem Blk.far (h:Blk w g t cs) {p:Addr} (hp:g≠p.block) (u:Value):Blk (w.setCell p u) g t cs:=h.keep (Below.heap_setCell w p u g hp)
theorem Blk.grown (h:Blk w g t cs) {row:Option Nat} (hb:w.grownBy w' row) (hg:some g≠row):Blk w' g t cs:=h.keep (hb.block g h.lt hg)
theorem Blk.turn (h:Blk w g t cs) {F:Nat→Prop} (hb:Turn F w w') (hg:¬ F g):Blk w' g t cs:=h.keep (hb.block g h.lt hg)
theorem Blk.eq {t':TypeId} {cs':Array Value} (h:Blk w g t cs) (h':Blk w g t' cs'):t=t'∧cs=cs':=by
 unfold Blk at h h'
 rw [h] at h'
 injection h' with h'
 injection h' with h1 h2
 exact ⟨h2,h1⟩
end
theorem own_keep {w w':World} {base:Nat} {e:TypeId} {size n:Nat} {v:Value} {xs:List Value} (h:w.ownsRow base e size v n xs)
  (hk : ∀ g,v.ownBlock=some g→w'.heap[g]? = w.heap[g]?):w'.ownsRow base e size v n xs:=by
 refine ⟨h.1,?_⟩
 rcases h.2 with h2 | ⟨g,cap,cur,rfl,hg,hh,r⟩
 ·exact .inl h2
 ·exact .inr ⟨g,cap,cur,rfl,hg,(hk g rfl).trans hh,r⟩
theorem own_blk {w:World} {base:Nat} {e:TypeId} {size n:Nat} {v:Value} {xs:List Value} (h:w.ownsRow base e size v n xs) {g:Nat} (hg:v.ownBlock=some g) :
  ∃ cur,Blk w g e cur:=by
 rcases h.2 with ⟨rfl,_⟩ | ⟨g',cap,cur,rfl,_,hh,_⟩
 ·simp [Value.ownBlock] at hg
 ·simp [Value.ownBlock] at hg
  subst hg
  exact ⟨cur,hh⟩
theorem own_slice {w:World} {base:Nat} {e:TypeId} {size n:Nat} {v:Value} {xs:List Value} (h:w.ownsRow base e size v n xs) : ∃ A cap,v = .slice A n cap:=by
 rcases h.2 with ⟨rfl,rfl⟩ | ⟨g',cap,cur,rfl,_,hh,_⟩
 ·exact ⟨_,_,rfl⟩
 ·exact ⟨_,_,rfl⟩
theorem own_mono {w:World} {base base':Nat} {e:TypeId} {size n:Nat} {v:Value} {xs:List Value} (h:w.ownsRow base e size v n xs) (hb : ∀ g,v.ownBlock=some g→base'≤g):w.ownsRow base' e size v n xs:=by
 refine ⟨h.1,?_⟩
 rcases h.2 with h2 | ⟨g,cap,cur,rfl,hg,r⟩
 ·exact .inl h2
 ·exact .inr ⟨g,cap,cur,rfl,hb g rfl,r⟩
def heldR:Value→Option (DataW Value × List MemPlace):=fun v=>some (.held v,[])
def VMap (P:Program) (k:TypeId) (w:World) (b n:Nat) (f:List UInt8→Option Value):Prop :=
 ∃ D:DataW Value,w.ownsMap P k heldR b n D∧(∀ s,Maps.has D (.string s)=(f s).isSome) ∧ ∀ s v,f s=some v → ∀ z,D.atKey (.string s) z = .held v
section
variable {P:Program} {k:TypeId} {w w':World} {b n:Nat} {f:List UInt8→Option Value}
theorem VMap.isMap (h:VMap P k w b n f) : ∃ es clock,w.heap[b]? = some (.map es clock):=by
 obtain ⟨D,⟨es,clock,hb,_⟩,_⟩:=h
 exact ⟨es,clock,hb⟩
theorem VMap.lt (h:VMap P k w b n f):b<w.heap.size:=by
 obtain ⟨es,clock,hb⟩:=h.isMap
 exact (Array.getElem?_eq_some_iff.1 hb).1
theorem VMap.keep (h:VMap P k w b n f) (hk:w'.heap[b]? = w.heap[b]?):VMap P k w' b n f:=by
 obtain ⟨D,⟨es,clock,hb,r⟩,h2⟩:=h
 exact ⟨D,⟨es,clock,hk.trans hb,r⟩,h2⟩
theorem VMap.mono (h:VMap P k w b n f) {n':Nat} (hn:n≤n'):VMap P k w b n' f:=by
 obtain ⟨D,h1,h2⟩:=h
 exact ⟨D,h1.mono hn,h2⟩
theorem VMap.made (w:World) (P:Program) (k:TypeId):VMap P k (w.alloc (.map #[] 0)) w.heap.size 0 (fun _=>none) :=
 ⟨.map [],World.ownsMap_made w P k heldR,fun s=>rfl,fun s v h=>by cases h⟩
theorem VMap.look (h:VMap P k w b n f) (hu:P.underlying k=some .string) {t e:TypeId} (ht:P.underlying t=some (.map k e)) {z:Value} (hz:(zeroValue e).run P w = .ok z w)
  {s:ByteArray} (hs:s.size≤maxLen):(Instr.lookup t (.map (some b)) (.string s) true).run P w = .ok (.tuple #[(f s.data.toList).getD z,.bool (f s.data.toList).isSome]) w:=by
 obtain ⟨D,h1,h2,h3⟩:=h
 obtain ⟨v,ps,hrun,hv⟩:=h1.look_ok (Maps.string_keyed hu) ht hz (zd := .held z) (zp:=[]) rfl (Go.WideMaps.keyOf_string_mk hu hs)
 rw [hrun,h2]
 cases hf:f s.data.toList with
 | none =>
  have:=Maps.atKey_of_not_has (D:=D) (k := .string s.data.toList) (by rw [h2,hf];rfl) (.held z)
  rw [this] at hv
  simp only [heldR,Option.some.injEq,Prod.mk.injEq,DataW.held.injEq] at hv
  rw [hv.1]
  rfl
 | some u =>
  rw [h3 _ _ hf] at hv
  simp only [heldR,Option.some.injEq,Prod.mk.injEq,DataW.held.injEq] at hv
  rw [hv.1]
  rfl
theorem ownsMap_exact {H:Type} {R:Value→Option (DataW H × List MemPlace)} {D:DataW H} (h:w.ownsMap P k R b n D) {n':Nat} (hn:Maps.size D≤n'):w.ownsMap P k R b n' D:=by
 obtain ⟨es,clock,hb,F,hs,rfl⟩:=h
 refine ⟨es,clock,hb,F,?_,rfl⟩
 have e1:Maps.size (DataW.map ((es.toList.map (WideElems.rg P k R)).foldr DataW.insert []))=es.size:=by simp [Maps.size,length_sorted]
 rw [← e1]
 exact hn
theorem VMap.store (h:VMap P k w b n f) (hu:P.underlying k=some .string) {t e:TypeId} (ht:P.underlying t=some (.map k e)) (hn:n<maxLen)
  {s:ByteArray} (hs:s.size≤maxLen) (u:Value) : ∃ w',(Instr.mapUpdate t (.map (some b)) (.string s) u).run P w = .ok () w' ∧
   VMap P k w' b (if (f s.data.toList).isSome then n else n+1) (fun x=>if x=s.data.toList then some u else f x)∧w.grownBy w' (some b):=by
 obtain ⟨D,h1,h2,h3⟩:=h
 obtain ⟨w',hrun,ho,hg⟩:=h1.update (Maps.string_keyed hu) ht hn (Go.WideMaps.keyOf_string_mk hu hs) (val:=u) (d := .held u) (ps:=[]) rfl
 refine ⟨w',hrun,⟨_,ownsMap_exact ho ?_,fun x => ?_,fun x v hv z => ?_⟩,hg⟩
 ·rw [Maps.size_put (h1.tidy (Maps.string_keyed hu)),h2]
  have:=h1.size_le
  cases (f s.data.toList).isSome <;> simp <;> omega
 ·by_cases hx:x=s.data.toList
  ·subst hx
   rw [Maps.has_put_same h1.isMap (show WideAt.IsKeyLit (.string s.data.toList) from True.intro)]
   simp
  ·rw [Maps.has_put_other (by simpa using hx),h2]
   simp [hx]
 ·by_cases hx:x=s.data.toList
  ·subst hx
   simp only [if_true,Option.some.injEq] at hv
   rw [Maps.atKey_put_same h1.isMap (show WideAt.IsKeyLit (.string s.data.toList) from True.intro),hv]
  ·rw [Maps.atKey_put_other (by simpa using hx)]
   exact h3 x v (by simpa [hx] using hv) z
end
end
end Go.Proofs.YtjjdmiaonkailaaGreatDoor
