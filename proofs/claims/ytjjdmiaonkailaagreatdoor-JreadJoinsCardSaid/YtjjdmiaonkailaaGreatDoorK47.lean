/- Walks and plain laws, packed: PlE, LexO, Rsame, Psame, PlS. -/
import Derived.Test.YtjjdmiaonkailaaGreatDoorK04
import Derived.Test.YtjjdmiaonkailaaGreatDoorK46
import Derived.Test.YtjjdmiaonkailaaGreatDoorK15
import Derived.Test.YtjjdmiaonkailaaGreatDoorK44
import Derived.Test.YtjjdmiaonkailaaGreatDoorK01
import Derived.Test.YtjjdmiaonkailaaGreatDoorK07
import Derived.KernelRfl
namespace Go.Proofs.YtjjdmiaonkailaaGreatDoor
section
open Go.RowKit
def Cd {α : Type} (x:Rd α):Prop := ∀ c ln,x=some (.error (c,ln))→c≠0
section
variable {α β : Type} {last:Nat} {l:List Tl} {F:Fns}
theorem Cd.none:Cd (none:Rd α):=fun _ _ h=>by cases h
theorem Cd.ok {a : α} {r:List Tl}:Cd (Rd.ok a r):=fun _ _ h=>by
 injection h with h
 cases h
theorem Cd.fail {e:Int} (he:e≠0):Cd (failF last e l:Rd α):=fun c ln h=>by
 injection h with h
 injection h with h
 injection h with h1 _
 rwa [← h1]
theorem stopE_ne {b:Bool}:stopE last b l≠0:=by
 unfold stopE
 (repeat' split) <;> decide
theorem Cd.stop {b:Bool}:Cd (stopF last b l:Rd α):=Cd.fail stopE_ne
theorem Cd.bind {x:Rd α} {g : α → List Tl→Rd β} (hx:Cd x) (hg : ∀ a r,Cd (g a r)):Cd (x.bind g):=by
 rcases x with _ | (⟨c,ln⟩ | ⟨a,r⟩)
 ·exact Cd.none
 ·intro c' ln' h
  have h:some (Except.error (c,ln))=some (Except.error (c',ln')):=h
  injection h with h
  injection h with h
  exact hx c' ln' (by rw [h])
 ·exact hg a r
theorem Cd.ite {c:Prop} [Decidable c] {x y:Rd α} (h1:Cd x) (h2:Cd y):Cd (if c then x else y):=by
 by_cases h:c
 ·rw [if_pos h];exact h1
 ·rw [if_neg h];exact h2
theorem Cd.must {s:List UInt8}:Cd (mustF last s l):=by
 unfold mustF
 exact Cd.ite Cd.ok Cd.stop
theorem Cd.name:Cd (nameF last l):=by
 unfold nameF
 exact Cd.ite Cd.ok Cd.stop
theorem Cd.end_:Cd (endF last l):=by
 unfold endF
 exact Cd.ite Cd.ok (Cd.ite Cd.stop Cd.ok)
structure CdF (F:Fns):Prop where
 expr : ∀ l,Cd (F.expr l)
 cond : ∀ l,Cd (F.cond l)
 level : ∀ n l,Cd (F.level n l)
 more : ∀ n x b l,Cd (F.more n x b l)
 signed : ∀ l,Cd (F.signed l)
 chain : ∀ l,Cd (F.chain l)
 members : ∀ b x l,Cd (F.members b x l)
 thing : ∀ l,Cd (F.thing l)
 args : ∀ a l,Cd (F.args a l)
 pairs : ∀ a l,Cd (F.pairs a l)
 names : ∀ a l,Cd (F.names a l)
 rest : ∀ l,Cd (F.rest l)
 block : ∀ l,Cd (F.block l)
 stmts : ∀ a l,Cd (F.stmts a l)
 within : ∀ l,Cd (F.within l)
 stmt : ∀ l,Cd (F.stmt l)
 word : ∀ s i l,Cd (F.word s i l)
theorem Cd.args (H:CdF F):Cd (argsF F l):=Cd.ite Cd.ok (H.args _ _)
theorem Cd.names (H:CdF F):Cd (namesF F l):=Cd.ite Cd.ok (H.names _ _)
theorem Cd.link (H:CdF F) {c:Bool} {x:Tree}:Cd (linkF F c x l):=Cd.bind (H.members _ _ _) fun _ _=>Cd.ok
theorem Cd.head (H:CdF F):Cd (headS last F l):=Cd.bind Cd.must fun _ _=>Cd.bind (H.expr _) fun _ _=>Cd.bind Cd.must fun _ _=>Cd.ok
theorem Cd.object (H:CdF F):Cd (objectS last F l):=Cd.bind Cd.must fun _ _=>Cd.bind (H.pairs _ _) fun _ _=>Cd.ok
theorem cdStep (H:CdF F):CdF (stepFns last F):=by
 constructor <;> intros <;> simp only [stepFns,exprS,condS,levelS,moreS,signedS,argsS,chainS,membersS,pairsS,thingS,namesS,restS,blockS,stmtsS,withinS,wordS,stmtS]
 all_goals repeat' first
  | with_reducible exact Cd.ok
  | with_reducible exact Cd.stop
  | with_reducible exact Cd.fail (by decide)
  | with_reducible exact Cd.must
  | with_reducible exact Cd.name
  | with_reducible exact Cd.end_
  | with_reducible exact Cd.args H
  | with_reducible exact Cd.names H
  | with_reducible exact Cd.link H
  | with_reducible exact Cd.head H
  | with_reducible exact Cd.object H
  | with_reducible exact H.expr _
  | with_reducible exact H.cond _
  | with_reducible exact H.level _ _
  | with_reducible exact H.more _ _ _ _
  | with_reducible exact H.signed _
  | with_reducible exact H.chain _
  | with_reducible exact H.members _ _ _
  | with_reducible exact H.thing _
  | with_reducible exact H.args _ _
  | with_reducible exact H.pairs _ _
  | with_reducible exact H.names _ _
  | with_reducible exact H.rest _
  | with_reducible exact H.block _
  | with_reducible exact H.stmts _ _
  | with_reducible exact H.within _
  | with_reducible exact H.stmt _
  | with_reducible exact H.word _ _ _
  | with_reducible refine Cd.ite ?_ ?_
  | with_reducible refine Cd.bind ?_ fun _ _ => ?_
theorem cdFns (last:Nat) : ∀ f,CdF (fns last f)
 | 0=>⟨fun _=>Cd.none,fun _=>Cd.none,fun _ _=>Cd.none,fun _ _ _ _=>Cd.none,fun _=>Cd.none,fun _=>Cd.none,fun _ _ _=>Cd.none,fun _=>Cd.none,fun _ _=>Cd.none,fun _ _=>Cd.none,fun _ _=>Cd.none,fun _=>Cd.none,fun _=>Cd.none,fun _ _=>Cd.none,fun _=>Cd.none,fun _=>Cd.none,fun _ _ _=>Cd.none⟩
 | f+1=>cdStep (cdFns last f)
end
def Rise:Nat→List Tl→Prop
 | _,[]=>True
 | n,t::l=>n≤t.line∧Rise t.line l
theorem Rise.weaken {m n:Nat} (h:m≤n) : ∀ {l:List Tl},Rise n l→Rise m l
 | [],_=>trivial
 | _::_,hl=>⟨Nat.le_trans h hl.1,hl.2⟩
theorem Rise.last : ∀ {l:List Tl} {n:Nat},Rise n l→(∀ t,t ∈ l→n≤lastF l∧t.line≤lastF l)
 | [],_,_,t,ht=>by simp at ht
 | [x],n,h,t,ht=>by
  rw [List.mem_singleton] at ht
  subst ht
  exact ⟨h.1,Nat.le_refl _⟩
 | x::y::l,n,h,t,ht=>by
  have hl:lastF (x::y::l)=lastF (y::l):=by simp [lastF]
  have ih:=Rise.last (l:=y::l) h.2
  have h1:=ih y (by simp)
  rw [hl]
  rcases List.mem_cons.1 ht with rfl | ht
  ·exact ⟨Nat.le_trans h.1 h1.1,h1.1⟩
  ·exact ⟨Nat.le_trans h.1 h1.1,(ih t ht).2⟩
theorem blanksF_line : ∀ {f:Nat} {x:Sc},x.line≤(blanksF f x).2.line
 | 0,x=>Nat.le_refl _
 | f+1,x=>by
  simp only [blanksF]
  split
  ·exact Nat.le_refl _
  ·exact Nat.le_refl _
  ·refine Nat.le_trans ?_ blanksF_line
   simp [passF]
theorem lexGo_rise : ∀ (f:Nat) (x:Sc) (m:Nat),Rise x.line (lexGo f x m).1
 | 0,_,_=>trivial
 | f+1,x,m=>by
  have hb:=blanksF_line (f:=x.s.length) (x:=x)
  simp only [lexGo]
  split
  ·exact trivial
  ·split
   ·exact trivial
   ·split
    ·exact trivial
    ·split
     ·exact trivial
     ·refine ⟨hb,Rise.weaken ?_ (lexGo_rise f _ _)⟩
      simp [passF]
theorem lexF_rise (s:List UInt8):Rise 0 (lexF s).1:=by
 unfold lexF
 split
 ·exact trivial
 ·have:=lexGo_rise (s.length+1) ⟨s,1,false⟩ 0
  cases hg:lexGo (s.length+1) ⟨s,1,false⟩ 0 with
  | mk l o =>
   rw [hg] at this
   cases o with
   | none=>exact Rise.weaken (by simp) this
   | some p=>exact trivial
theorem all_err {α : Type} {last:Nat} {b:Bool} {x:Rd α} {l:List Tl} {n:Nat} {c ln:Int} (hx:Ok last l n x) (hc:Cd x) (h:allRead last b x=some (.error (c,ln))):c≠0∧(ln=(last:Int) ∨ ∃ t,t ∈ l∧ln=(t.line:Int)):=by
 refine ⟨?_,?_⟩
 ·refine Cd.bind hc (fun a r => ?_) c ln h
  exact Cd.ite Cd.stop Cd.ok
 ·refine (Ok.bind (m:=n) hx fun a r h1 h2 => ?_).2 c ln h
  split
  ·exact Ok.stop h1
  ·exact Ok.ok h1 h2
theorem line_in {l:List Tl} (hl:Rise 0 l) {ln:Int} (h:ln=(lastF l:Int) ∨ ∃ t,t ∈ l∧ln=(t.line:Int)):0≤ln∧ln≤(lastF l:Int):=by
 rcases h with rfl | ⟨t,ht,rfl⟩
 ·omega
 ·have:=(hl.last t ht).2
  omega
theorem prog_err {l:List Tl} (hl:Rise 0 l) {f:Nat} {c ln:Int} (h:progF f l=some (.error (c,ln))):c≠0∧0≤ln∧ln≤(lastF l:Int):=by
 have H:=cdFns (lastF l) f
 have K:=okFns (lastF l) f
 have:=all_err (n:=l.length+1) (Ok.bind (m:=l.length+1) (K.stmts [] l) fun ps r h1 h2=>Ok.ok h1 h2) (Cd.bind (H.stmts _ _) fun _ _=>Cd.ok) h
 exact ⟨this.1,line_in hl this.2⟩
theorem sole_err {l:List Tl} (hl:Rise 0 l) {f:Nat} {c ln:Int} (h:soleF f l=some (.error (c,ln))):c≠0∧0≤ln∧ln≤(lastF l:Int):=by
 have:=all_err ((okFns (lastF l) f).expr l) ((cdFns (lastF l) f).expr l) h
 exact ⟨this.1,line_in hl this.2⟩
theorem prog_some (l:List Tl) : ∃ y,progF (fuelF l) l=some y:=Option.ne_none_iff_exists'.1 (prog_total l)
theorem sole_some (l:List Tl) : ∃ y,soleF (fuelF l) l=some y:=Option.ne_none_iff_exists'.1 (sole_total l)
end
section
open Go.RowKit Go.Sort
theorem LexOut.toks {w:World} {s:ByteArray} {e:Ending} {w':World} (h:LexOut w s.data.toList e w') (hs:s.size≤20000) :
  ∃ (ts:List Tl) (at0:Nat) (e0:Int) (A:Option Addr) (cap:Nat),lexF s.data.toList=(ts,at0,e0)∧e = .returned (.tuple #[.slice A ts.length cap,.int .i64 at0,.int .i64 e0]) ∧
   w'.ownsRow w.heap.size 37 5 (.slice A ts.length cap) ts.length (tlCells ts)∧TokSl w'.heap.size w' ts (.slice A ts.length cap)∧Below w.heap.size w w'∧ts.length≤s.size∧Rise 0 ts ∧ ∀ t ∈ ts,TokOk t:=by
 obtain ⟨A,cap,h1,h2,h3⟩:=h
 have hl:=lexF_len (s:=s.data.toList) (by rw [← size_len];exact hs)
 rw [← size_len] at hl
 exact ⟨_,_,_,A,cap,rfl,h1,h2,own_toks h2 rfl (Nat.le_trans hl (by omega)) (lexF_ok _),h3,hl,lexF_rise _,lexF_ok _⟩
abbrev noT:Tree := .node 0 ⟨#[]⟩ 0 [] 0
theorem noT_ok:noT.ok:=⟨by decide,by decide,by decide⟩
theorem ParseP.open {f:Tree→Bool} {w:World} {y:Except (Int × Int) (Tree × List Tl)} {e:Ending} {w':World} {last:Nat} (h:ParseP f w y e w') (he : ∀ c ln,y = .error (c,ln)→c≠0∧0≤ln∧ln≤(last:Int)) :
  ∃ (t:Tree) (d:Nat) (A:Option Addr) (c:Nat) (ln code:Int),e = .returned (.tuple #[nodeV t (.slice A t.l.length c),.int .i64 ln,.int .i64 code])∧t.ok∧Kids w' d t.l (.slice A t.l.length c)∧Below w.heap.size w w' ∧
   (code=0→ln=0∧f t=true ∧ ∃ r,y = .ok (t,r))∧(code≠0→t=noT∧A=none∧c=0∧0≤ln∧ln≤(last:Int))∧(∀ t' r,y = .ok (t',r)→code=if f t' then 0 else 41):=by
 rcases y with ⟨c,ln⟩ | ⟨t,r⟩
 ·obtain ⟨h1,h2⟩:=h
  obtain ⟨g1,g2,g3⟩:=he c ln rfl
  exact ⟨noT,0,none,0,ln,c,h1,noT_ok,⟨rfl,none,0,rfl⟩,h2,fun h=>absurd h g1,fun _=>⟨rfl,rfl,rfl,g2,g3⟩,(fun _ _ h=>by cases h)⟩
 ·obtain ⟨d,A,c,h1,h2,h3,h4⟩:=h
  cases hf:f t with
  | true =>
   rw [hf] at h1
   exact ⟨t,d,A,c,0,0,h1,h2,h3.kids,h4,fun _=>⟨rfl,hf,r,rfl⟩,fun h=>absurd rfl h,fun t' r' h=>by
    injection h with h
    injection h with h1 _
    rw [← h1,hf]
    rfl⟩
  | false =>
   rw [hf] at h1
   exact ⟨noT,0,none,0,0,41,h1,noT_ok,⟨rfl,none,0,rfl⟩,h4,(fun h=>by cases h),fun _=>⟨rfl,rfl,rfl,Int.le_refl _,by omega⟩,fun t' r' h=>by
    injection h with h
    injection h with h1 _
    rw [← h1,hf]
    rfl⟩
end
section
open Go.RowKit
theorem bytes_ne {a b:ByteArray} (h:a≠b):(a.toList==b.toList)=false:=by
 rw [ByteArray.toList_eq,ByteArray.toList_eq,beq_eq_false_iff_ne]
 exact fun e=>h (Go.WideShapes.bytes_inj e)
set_option maxRecDepth 100000 in
set_option maxHeartbeats 4000000 in
theorem rsame_calls (d:Nat) : ∀ (d':Nat) (w:World) (t u:Tree) (sl sm:Value),Kids w d t.l sl→Kids w d' u.l sm →
  Calls Tryz.prog 12 #[.agg #[.int .i64 t.op,.string t.s,.int .i64 t.n,sl,.int .i64 t.line],.agg #[.int .i64 u.op,.string u.s,.int .i64 u.n,sm,.int .i64 u.line]] w
   fun e w'=>e = .returned (.bool (t.same u))∧Below w.heap.size w w':=by
 induction d using Nat.strongRecOn with
 | _ d ih =>
  intro d' w t u sl sm hk hk'
  have IH:=Lib.hid ih
  clear ih
  obtain ⟨hl,A,c,rfl⟩:=hk.form
  obtain ⟨hl',A',c',rfl⟩:=hk'.form
  unfold maxLen at hl hl'
  have HK:=Lib.hid hk
  have HK':=Lib.hid hk'
  have HE:=Lib.hid (same_eq t u)
  clear hk hk'
  obtain ⟨w0,hw0⟩ : ∃ w0,w.alloc (.cells #[.int .i64 t.op,.string t.s,.int .i64 t.n,.slice A t.l.length c,.int .i64 t.line] 29)=w0:=⟨_,rfl⟩
  obtain ⟨w1,hw1⟩ : ∃ w1,w0.alloc (.cells #[.int .i64 u.op,.string u.s,.int .i64 u.n,.slice A' u.l.length c',.int .i64 u.line] 29)=w1:=⟨_,rfl⟩
  have bx0:Blk5 w0 w.heap.size t.op t.s t.n (.slice A t.l.length c) t.line:=by rw [← hw0];exact blk5_new _ _ _ _ _ _
  have by1:Blk5 w1 w0.heap.size u.op u.s u.n (.slice A' u.l.length c') u.line:=by rw [← hw1];exact blk5_new _ _ _ _ _ _
  have hb0:Below w.heap.size w w0:=by rw [← hw0];exact (Below.refl _ _).alloc (Nat.le_refl _) _
  have hb1:Below w0.heap.size w0 w1:=by rw [← hw1];exact (Below.refl _ _).alloc (Nat.le_refl _) _
  have bx1:=bx0.keep hb1
  have HB1:=Lib.hid (hb0.trans (hb1.mono hb0.size))
  have HX:=Lib.hid bx1
  have HY:=Lib.hid by1
  clear hb0 hb1 bx0
  obtain ⟨x0,x1,x2,x3,x4⟩:=bx1
  obtain ⟨y0,y1,y2,y3,y4⟩:=by1
  by_cases ho:t.op=u.op
  ·by_cases hs:t.s=u.s
   ·by_cases hn:t.n=u.n
    ·by_cases hlen:t.l.length=u.l.length
     ·have hob:(t.op != u.op)=false:=by simp [ho]
      have hsb:(t.s.toList==u.s.toList)=true:=by simp [hs]
      have hnb:(t.n != u.n)=false:=by simp [hn]
      have hlb:((t.l.length:Int) != (u.l.length:Int))=false:=by simp [hlen]
      have HS:Hid (t.same u=sames t.l u.l):=by refine Lib.hid ?_;rw [HE.out];simp [ho,hs,hn]
      have HLEN:=Lib.hid hlen
      clear ho hs hn hlen
      go_enter Tryz.func12,Tryz.ntmps12
      go_wp2
      go_loopw [5] (fun i wr => ∃ k:Nat,k≤t.l.length∧i = .int .i64 k∧(∀ (j:Nat) (a b:Tree),j<k→t.l[j]? = some a→u.l[j]? = some b→a.same b=true)∧Below w1.heap.size w1 wr) (fun i _=>t.l.length-(intOf i).toNat)
      case atStart=>exact ⟨0,by omega,rfl,fun j a b hj=>by omega,Below.refl _ _⟩
      case round =>
       obtain ⟨k,hkl,rfl,hal,hb⟩:=hrel
       have HAL:=Lib.hid hal
       have HB:=Lib.hid hb
       obtain ⟨x0,x1,x2,x3,x4⟩:=HX.out.keep hb
       obtain ⟨y0,y1,y2,y3,y4⟩:=HY.out.keep hb
       clear hal hb
       by_cases hlt:k<t.l.length
       ·have hta:t.l[k]? = some t.l[k]:=List.getElem?_eq_getElem hlt
        have hub:u.l[k]? = some (u.l[k]'(by have:=HLEN.out;omega)):=List.getElem?_eq_getElem _
        generalize t.l[k]=a at hta
        generalize u.l[k]'(by have:=HLEN.out;omega)=b at hub
        obtain ⟨p,sa,d1,hd1,rfl,hpa,hka,_⟩:=HK.out.at_ hta
        obtain ⟨q,sb,d2,hd2,rfl,hqb,hkb,_⟩:=HK'.out.at_ hub
        have hlt':k<u.l.length:=(List.getElem?_eq_some_iff.1 hub).1
        have hbw:=HB1.out.trans (HB.out.mono HB1.out.size)
        obtain ⟨a0,a1,a2,a3,a4⟩:=hpa.below hbw
        obtain ⟨b0,b1,b2,b3,b4⟩:=hqb.below hbw
        have HKA:=Lib.hid (hka.below hbw)
        have HKB:=Lib.hid (hkb.below hbw)
        have HBW:=Lib.hid hbw
        have HTA:=Lib.hid hta
        have HUB:=Lib.hid hub
        clear hpa hqb hka hkb hta hub hbw
        go_wp2
        go_still_tail 10,(by kernel_rfl)
        change wpList _ _ _ _ _ wr.drew
        go_wp2_with fail
        refine (IH.out d1 hd1 d2 wr.drew a b sa sb (HKA.out.below (Below.refl _ _).drew) (HKB.out.below (Below.refl _ _).drew)).mono ?_
        rintro e w' ⟨rfl,hb'⟩
        have HB':=Lib.hid (HB.out.trans (((Below.refl wr.heap.size wr).drew.trans hb').mono HB.out.size))
        clear hb' a0 a1 a2 a3 a4 b0 b1 b2 b3 b4
        cases hab:a.same b with
        | true =>
         have HAB:=Lib.hid hab
         clear hab
         go_wp2
         go_roundw
         case rel =>
          refine ⟨k+1,by omega,by go_num,fun j x y hj hx hy => ?_,HB'.out⟩
          by_cases hjk:j<k
          ·exact HAL.out j x y hjk hx hy
          ·obtain rfl:j=k:=by omega
           have h1:=HTA.out
           have h2:=HUB.out
           rw [hx] at h1
           rw [hy] at h2
           injection h1 with h1
           injection h2 with h2
           subst h1 h2
           exact HAB.out
         case measure=>simp [intOf];omega
        | false =>
         have HSF:Hid (t.same u=false):=by refine Lib.hid ?_;rw [HS.out];exact sames_at HTA.out HUB.out hab
         clear hab
         go_wp2
         go_ret
         exact ⟨by rw [HSF.out];rfl,HB1.out.trans (HB'.out.mono HB1.out.size)⟩
       ·obtain rfl:k=t.l.length:=by omega
        have hdd:decide ((t.l.length:Int)<(t.l.length:Int))=false:=by simp
        have HST:Hid (t.same u=true):=by
         refine Lib.hid ?_
         rw [HS.out]
         exact sames_all HLEN.out (fun j x y hx hy=>HAL.out j x y (List.getElem?_eq_some_iff.1 hx).1 hx hy)
        go_wp2
        go_ret
        exact ⟨by rw [HST.out];rfl,HB1.out.trans (HB.out.mono HB1.out.size)⟩
     ·have hf:t.same u=false:=by rw [HE.out];simp [sames_len hlen]
      have HF:=Lib.hid hf
      have hob:(t.op != u.op)=false:=by simp [ho]
      have hsb:(t.s.toList==u.s.toList)=true:=by simp [hs]
      have hnb:(t.n != u.n)=false:=by simp [hn]
      have hlb:((t.l.length:Int) != (u.l.length:Int))=true:=by rw [bne_iff_ne];omega
      clear hf ho hs hn hlen
      go_enter Tryz.func12,Tryz.ntmps12
      go_wp2
      go_ret
      exact ⟨by rw [HF.out];rfl,HB1.out⟩
    ·have hf:t.same u=false:=by rw [HE.out];simp [hn]
     have HF:=Lib.hid hf
     have hob:(t.op != u.op)=false:=by simp [ho]
     have hsb:(t.s.toList==u.s.toList)=true:=by simp [hs]
     have hnb:(t.n != u.n)=true:=by rw [bne_iff_ne];exact hn
     clear hf ho hs hn
     go_enter Tryz.func12,Tryz.ntmps12
     go_wp2
     go_ret
     exact ⟨by rw [HF.out];rfl,HB1.out⟩
   ·have hf:t.same u=false:=by rw [HE.out];simp [hs]
    have HF:=Lib.hid hf
    have hob:(t.op != u.op)=false:=by simp [ho]
    have hsb:=bytes_ne hs
    clear hf ho hs
    go_enter Tryz.func12,Tryz.ntmps12
    go_wp2
    go_ret
    exact ⟨by rw [HF.out];rfl,HB1.out⟩
  ·have hf:t.same u=false:=by rw [HE.out];simp [ho]
   have HF:=Lib.hid hf
   have hob:(t.op != u.op)=true:=by rw [bne_iff_ne];exact ho
   clear hf ho
   go_enter Tryz.func12,Tryz.ntmps12
   go_wp2
   go_ret
   exact ⟨by rw [HF.out];rfl,HB1.out⟩
end
section
open Go.RowKit
def SameAt (d:Nat):Prop := ∀ (d':Nat) (w:World) (t u:Tree) (sl sm:Value),Kids w d t.l sl→Kids w d' u.l sm →
  Calls Tryz.prog 19 #[.agg #[.int .i64 t.op,.string t.s,.int .i64 t.n,sl,.int .i64 t.line],.agg #[.int .i64 u.op,.string u.s,.int .i64 u.n,sm,.int .i64 u.line]] w
   fun e w'=>e = .returned (.bool (t.same u))∧Below w.heap.size w w'
set_option maxRecDepth 100000 in
set_option maxHeartbeats 4000000 in
theorem equal_calls (d:Nat) (ih : ∀ d1,d1<d→SameAt d1) (d':Nat) (w:World) (l m:List Tree) (vl vm:Value) (hk:Kids w d l vl) (hk':Kids w d' m vm) :
  Calls Tryz.prog 37 #[vl,vm,.func (.func 19) #[] #[]] w
   fun e w'=>e = .returned (.bool (sames l m))∧Below w.heap.size w w':=by
 have IH:=Lib.hid ih
 clear ih
 obtain ⟨hl,A,c,rfl⟩:=hk.form
 obtain ⟨hl',A',c',rfl⟩:=hk'.form
 unfold maxLen at hl hl'
 have HK:=Lib.hid hk
 have HK':=Lib.hid hk'
 clear hk hk'
 by_cases hlen:l.length=m.length
 ·have hlb:((l.length:Int) != (m.length:Int))=false:=by simp [hlen]
  have HLEN:=Lib.hid hlen
  clear hlen
  go_enter Tryz.func37,Tryz.ntmps37
  go_wp2
  go_loopw [17] (fun i wr => ∃ k:Nat,k≤l.length∧i = .int .i64 k∧(∀ (j:Nat) (a b:Tree),j<k→l[j]? = some a→m[j]? = some b→a.same b=true)∧Below w.heap.size w wr) (fun i _=>l.length-(intOf i).toNat)
  case atStart=>exact ⟨0,by omega,rfl,fun j a b hj=>by omega,Below.refl _ _⟩
  case round =>
   obtain ⟨k,hkl,rfl,hal,hb⟩:=hrel
   have HAL:=Lib.hid hal
   have HB:=Lib.hid hb
   clear hal hb
   by_cases hlt:k<l.length
   ·have hta:l[k]? = some l[k]:=List.getElem?_eq_getElem hlt
    have hub:m[k]? = some (m[k]'(by have:=HLEN.out;omega)):=List.getElem?_eq_getElem _
    generalize l[k]=a at hta
    generalize m[k]'(by have:=HLEN.out;omega)=b at hub
    obtain ⟨p,sa,d1,hd1,rfl,hpa,hka,_⟩:=HK.out.at_ hta
    obtain ⟨q,sb,d2,hd2,rfl,hqb,hkb,_⟩:=HK'.out.at_ hub
    obtain ⟨_,A3,c3,rfl⟩:=hka.form
    obtain ⟨_,A4,c4,rfl⟩:=hkb.form
    have hlt':k<m.length:=(List.getElem?_eq_some_iff.1 hub).1
    have HPA:=Lib.hid (hpa.below HB.out)
    have HQB:=Lib.hid (hqb.below HB.out)
    have HKA:=Lib.hid (hka.below HB.out)
    have HKB:=Lib.hid (hkb.below HB.out)
    have HTA:=Lib.hid hta
    have HUB:=Lib.hid hub
    obtain ⟨a0,a1,a2,a3,a4⟩:=HPA.out
    obtain ⟨b0,b1,b2,b3,b4⟩:=HQB.out
    have hqlt:=World.block_lt_of_cell? _ _ b0
    have hqlt':(q.add (k*5)).block<wr.heap.size+1:=by omega
    clear hpa hqb hka hkb hta hub
    go_wp2_with fail
    have hw2:Below wr.heap.size wr ((wr.alloc (.cells #[.int .i64 a.op,.string a.s,.int .i64 a.n,.slice A3 a.l.length c3,.int .i64 a.line] 29)).alloc (.cells #[.int .i64 b.op,.string b.s,.int .i64 b.n,.slice A4 b.l.length c4,.int .i64 b.line] 29)):=((Below.refl _ _).alloc (Nat.le_refl _) _).alloc (by simp) _
    generalize (wr.alloc (.cells #[.int .i64 a.op,.string a.s,.int .i64 a.n,.slice A3 a.l.length c3,.int .i64 a.line] 29)).alloc (.cells #[.int .i64 b.op,.string b.s,.int .i64 b.n,.slice A4 b.l.length c4,.int .i64 b.line] 29)=w2 at hw2 ⊢
    clear a0 a1 a2 a3 a4 b0 b1 b2 b3 b4 hqlt hqlt'
    refine (IH.out d1 hd1 d2 w2 a b (.slice A3 a.l.length c3) (.slice A4 b.l.length c4) (HKA.out.below hw2) (HKB.out.below hw2)).mono ?_
    rintro e w' ⟨rfl,hb'⟩
    have HB':=Lib.hid (HB.out.trans ((hw2.trans (hb'.mono hw2.size)).mono HB.out.size))
    clear hb' hw2
    cases hab:a.same b with
    | true =>
     have HAB:=Lib.hid hab
     clear hab
     go_wp2
     go_roundw
     case rel =>
      refine ⟨k+1,by omega,by go_num,fun j x y hj hx hy => ?_,HB'.out⟩
      by_cases hjk:j<k
      ·exact HAL.out j x y hjk hx hy
      ·obtain rfl:j=k:=by omega
       have h1:=HTA.out
       have h2:=HUB.out
       rw [hx] at h1
       rw [hy] at h2
       injection h1 with h1
       injection h2 with h2
       subst h1 h2
       exact HAB.out
     case measure=>simp [intOf];omega
    | false =>
     have HSF:Hid (sames l m=false):=Lib.hid (sames_at HTA.out HUB.out hab)
     clear hab
     go_wp2
     go_ret
     exact ⟨by rw [HSF.out];rfl,HB'.out⟩
   ·obtain rfl:k=l.length:=by omega
    have hdd:decide ((l.length:Int)<(l.length:Int))=false:=by simp
    have HST:Hid (sames l m=true):=Lib.hid (sames_all HLEN.out (fun j x y hx hy=>HAL.out j x y (List.getElem?_eq_some_iff.1 hx).1 hx hy))
    go_wp2
    go_ret
    exact ⟨by rw [HST.out];rfl,HB.out⟩
 ·have hlb:((l.length:Int) != (m.length:Int))=true:=by rw [bne_iff_ne];omega
  have HSF:=Lib.hid (sames_len hlen)
  clear hlen
  go_enter Tryz.func37,Tryz.ntmps37
  go_wp2
  go_ret
  exact ⟨by rw [HSF.out];rfl,Below.refl _ _⟩
set_option maxRecDepth 100000 in
set_option maxHeartbeats 4000000 in
theorem psame_calls (d:Nat):SameAt d:=by
 induction d using Nat.strongRecOn with
 | _ d ih =>
  intro d' w t u sl sm hk hk'
  have IH:=Lib.hid ih
  clear ih
  obtain ⟨hl,A,c,rfl⟩:=hk.form
  obtain ⟨hl',A',c',rfl⟩:=hk'.form
  clear hl hl'
  have HE:=Lib.hid (same_eq t u)
  obtain ⟨w0,hw0⟩ : ∃ w0,w.alloc (.cells #[.int .i64 t.op,.string t.s,.int .i64 t.n,.slice A t.l.length c,.int .i64 t.line] 29)=w0:=⟨_,rfl⟩
  obtain ⟨w1,hw1⟩ : ∃ w1,w0.alloc (.cells #[.int .i64 u.op,.string u.s,.int .i64 u.n,.slice A' u.l.length c',.int .i64 u.line] 29)=w1:=⟨_,rfl⟩
  have bx0:Blk5 w0 w.heap.size t.op t.s t.n (.slice A t.l.length c) t.line:=by rw [← hw0];exact blk5_new _ _ _ _ _ _
  have by1:Blk5 w1 w0.heap.size u.op u.s u.n (.slice A' u.l.length c') u.line:=by rw [← hw1];exact blk5_new _ _ _ _ _ _
  have hb0:Below w.heap.size w w0:=by rw [← hw0];exact (Below.refl _ _).alloc (Nat.le_refl _) _
  have hb1:Below w0.heap.size w0 w1:=by rw [← hw1];exact (Below.refl _ _).alloc (Nat.le_refl _) _
  have bx1:=bx0.keep hb1
  have HB1:=Lib.hid (hb0.trans (hb1.mono hb0.size))
  have HK:=Lib.hid (hk.below HB1.out)
  have HK':=Lib.hid (hk'.below HB1.out)
  clear hb0 hb1 bx0 hk hk'
  obtain ⟨x0,x1,x2,x3,x4⟩:=bx1
  obtain ⟨y0,y1,y2,y3,y4⟩:=by1
  by_cases ho:t.op=u.op
  ·by_cases hs:t.s=u.s
   ·by_cases hn:t.n=u.n
    ·have hob:(t.op==u.op)=true:=by simp [ho]
     have hsb:(t.s.toList==u.s.toList)=true:=by simp [hs]
     have hnb:(t.n==u.n)=true:=by simp [hn]
     have HS:Hid (t.same u=sames t.l u.l):=by refine Lib.hid ?_;rw [HE.out];simp [ho,hs,hn]
     clear ho hs hn
     go_enter Tryz.func19,Tryz.ntmps19
     go_wp2_with (go_at_call 37;refine (equal_calls d IH.out d' w1 t.l u.l _ _ HK.out HK'.out).mono ?_;rintro e w' ⟨rfl,hb'⟩;have HB':=Lib.hid hb';clear hb')
     go_ret
     exact ⟨by rw [HS.out];simp,HB1.out.trans (HB'.out.mono HB1.out.size)⟩
    ·have hf:t.same u=false:=by rw [HE.out];simp [hn]
     have HF:=Lib.hid hf
     have hob:(t.op==u.op)=true:=by simp [ho]
     have hsb:(t.s.toList==u.s.toList)=true:=by simp [hs]
     have hnb:(t.n==u.n)=false:=by simp [hn]
     clear ho hs hn hf
     go_enter Tryz.func19,Tryz.ntmps19
     go_wp2
     go_ret
     exact ⟨by rw [HF.out];rfl,HB1.out⟩
   ·have hf:t.same u=false:=by rw [HE.out];simp [hs]
    have HF:=Lib.hid hf
    have hob:(t.op==u.op)=true:=by simp [ho]
    have hsb:=bytes_ne hs
    clear ho hs hf
    go_enter Tryz.func19,Tryz.ntmps19
    go_wp2
    go_ret
    exact ⟨by rw [HF.out];rfl,HB1.out⟩
  ·have hf:t.same u=false:=by rw [HE.out];simp [ho]
   have HF:=Lib.hid hf
   have hob:(t.op==u.op)=false:=by simp [ho]
   clear ho hf
   go_enter Tryz.func19,Tryz.ntmps19
   go_wp2
   go_ret
   exact ⟨by rw [HF.out];rfl,HB1.out⟩
end
section
open Go.RowKit
theorem pass_app (s r:List UInt8) (k:Nat) (b:Bool) {n:Nat} (h:n≤s.length):passF ⟨s++r,k,b⟩ n={ passF ⟨s,k,b⟩ n with s:=s.drop n++r }:=by
 simp only [passF]
 rw [drop_app h,List.take_append_of_le_length h]
theorem lexL_tok' {f:Nat} {s:List UInt8} {k:Nat} {b:Bool} (h:blankN s=some 0) (hs:s≠[]) (he:(tokenF s).2.2=0) :
  lexL (f+1) ⟨s,k,b⟩=(⟨(tokenF s).1,k,b⟩::(lexL f ⟨s.drop (tokenF s).2.1,k,false⟩).1,(lexL f ⟨s.drop (tokenF s).2.1,k,false⟩).2):=by
 have hc:(s.take (tokenF s).2.1).count 10=0:=List.count_eq_zero.2 fun hm=>(token_ok he).2.2 10 hm rfl
 have h1:=lexL_tok (x:=⟨s,k,b⟩) (f:=f) h hs he
 have ep:(⟨s.drop (tokenF s).2.1,k+(s.take (tokenF s).2.1).count 10,false⟩:Sc)=⟨s.drop (tokenF s).2.1,k,false⟩:=by rw [hc];rfl
 rw [← ep]
 exact h1
theorem lexL_join (r:List UInt8) : ∀ {f g:Nat} {s:List UInt8} {k:Nat} {b:Bool},s.length≤f→(s++10::r).length≤g→(lexL f ⟨s,k,b⟩).2=none →
  ∃ j,k≤j∧lexL g ⟨s++10::r,k,b⟩=((lexL f ⟨s,k,b⟩).1++(lexL r.length ⟨r,j,true⟩).1,(lexL r.length ⟨r,j,true⟩).2)
 | f,0,s,_,_,_,h,_=>by simp at h
 | f,g+1,[],k,b,h,h',_=>by
  have e0:lexL f ⟨[],k,b⟩=([],none):=by
   cases f with
   | zero=>rfl
   | succ f=>exact lexL_end rfl
  rw [e0,List.nil_append,lexL_blank (x:=⟨10::r,k,b⟩) (n:=0) (by simp [blankN,spacesL])]
  simp only [List.nil_append,List.length_cons,Nat.add_le_add_iff_right] at h'
  refine ⟨k+1,by omega,?_⟩
  have:passF ⟨10::r,k,b⟩ (0+1)=⟨r,k+1,true⟩:=by simp [passF]
  rw [this,lexL_fuel (f:=g) (g:=r.length) h' (Nat.le_refl _)]
  rfl
 | 0,g+1,c::s,_,_,h,_,_=>by simp at h
 | f+1,g+1,c::s,k,b,h,h',he=>by
  have hs:c::s≠[]:=by simp
  generalize c::s=t at hs h h' he
  have hlt:(t++10::r).length=t.length+r.length+1:=by simp;omega
  cases hb:blankN t with
  | none=>rw [lexL_bad (x:=⟨t,k,b⟩) hb] at he;cases he
  | some n =>
   have hb':=(blank_stop r hs (by rw [hb];simp)).trans hb
   have hn:=blankN_le _ hb
   cases n with
   | succ n =>
    rw [lexL_blank (x:=⟨t,k,b⟩) hb] at he ⊢
    rw [lexL_blank (x:=⟨t++10::r,k,b⟩) hb',pass_app _ _ _ _ hn]
    obtain ⟨j,h1,h2⟩:=lexL_join r (f:=f) (g:=g) (s:=t.drop (n+1)) (k:=(passF ⟨t,k,b⟩ (n+1)).line) (b:=(passF ⟨t,k,b⟩ (n+1)).nl) (by rw [List.length_drop];omega) (by rw [List.length_append,List.length_drop];simp only [List.length_cons];omega) he
    exact ⟨j,Nat.le_trans (by simp [passF]) h1,h2⟩
   | zero =>
    have ht:=token_stop r hs
    by_cases ht0:(tokenF t).2.2=0
    ·obtain ⟨hp,hle,_⟩:=token_ok ht0
     rw [lexL_tok' hb hs ht0] at he ⊢
     obtain ⟨j,h1,h2⟩:=lexL_join r (f:=f) (g:=g) (s:=t.drop (tokenF t).2.1) (k:=k) (b:=false) (by rw [List.length_drop];omega) (by rw [List.length_append,List.length_drop];simp only [List.length_cons];omega) he
     refine ⟨j,h1,?_⟩
     rw [lexL_tok' hb' (by simp) (by rw [ht];exact ht0),ht,drop_app hle,h2]
     rfl
    ·rw [lexL_err (x:=⟨t,k,b⟩) hb hs ht0] at he
     cases he
theorem lex_semi (j:Nat):lexL 1 ⟨[59],j,true⟩=([⟨⟨5,[59],0⟩,j,true⟩],none):=by kernel_rfl
theorem lex_brace (j:Nat):lexL 1 ⟨[125],j,true⟩=([⟨⟨5,[125],0⟩,j,true⟩],none):=by kernel_rfl
theorem lexF_none {s:List UInt8} (h:s.length≤20000) (he:(lexF s).2.2=0):(lexL s.length ⟨s,1,false⟩).2=none∧(lexL s.length ⟨s,1,false⟩).1=(lexF s).1:=by
 have h2:=(lexL_toks s.length ⟨s,1,false⟩).2
 rw [lexF_eq h] at he ⊢
 cases hr:lexL s.length ⟨s,1,false⟩ with
 | mk l e =>
  rw [hr] at he h2
  cases e with
  | none=>exact ⟨rfl,rfl⟩
  | some p =>
   have h3:=h2.2 rfl
   rw [← h2.1] at h3
   exact absurd he h3
theorem lexF_of {s:List UInt8} (h:s.length≤20000) {l:List Tl} (he:lexL s.length ⟨s,1,false⟩=(l,none)):lexF s=(l,0,0):=by
 rw [lexF_eq h,he]
theorem lexF_semi {s:List UInt8} (h:s.length≤2000) (he:(lexF s).2.2=0) : ∃ j,lexF (s++[10,59])=((lexF s).1++[⟨⟨5,[59],0⟩,j,true⟩],0,0):=by
 obtain ⟨h1,h2⟩:=lexF_none (by omega) he
 obtain ⟨j,_,h3⟩:=lexL_join [59] (Nat.le_refl _) (g:=(s++[10,59]).length) (Nat.le_refl _) h1
 rw [show ([59]:List UInt8).length=1 from rfl,lex_semi,h2] at h3
 exact ⟨j,lexF_of (by simp;omega) h3⟩
theorem blank_open (s:List UInt8):blankN (123::s)=some 0:=by
 simp [blankN,spacesL]
theorem token_open (s:List UInt8):tokenF (123::s)=(⟨5,[123],0⟩,1,0):=by
 have hl:letterB 123=false:=by decide
 have hd:digitB8 123=false:=by decide
 have hb:beginsF (123::s) signs5=0:=by simp [beginsF,signs5]
 simp [tokenF,hl,hd,hb,signs1]
theorem lexF_braces {s:List UInt8} (h:s.length≤2000) (he:(lexF s).2.2=0) : ∃ j,lexF (123::(s++[10,125]))=(⟨⟨5,[123],0⟩,1,false⟩::((lexF s).1++[⟨⟨5,[125],0⟩,j,true⟩]),0,0):=by
 obtain ⟨h1,h2⟩:=lexF_none (by omega) he
 obtain ⟨j,_,h3⟩:=lexL_join [125] (Nat.le_refl _) (g:=(s++[10,125]).length) (Nat.le_refl _) h1
 rw [show ([125]:List UInt8).length=1 from rfl,lex_brace,h2] at h3
 refine ⟨j,lexF_of (by simp;omega) ?_⟩
 rw [List.length_cons,lexL_tok' (blank_open _) (by simp) (by simp [token_open]),token_open]
 show ((_::(lexL (s++[10,125]).length ⟨s++[10,125],1,false⟩).1,(lexL (s++[10,125]).length ⟨s++[10,125],1,false⟩).2):List Tl × Option (Nat × Int))=_
 rw [h3]
end
end Go.Proofs.YtjjdmiaonkailaaGreatDoor
