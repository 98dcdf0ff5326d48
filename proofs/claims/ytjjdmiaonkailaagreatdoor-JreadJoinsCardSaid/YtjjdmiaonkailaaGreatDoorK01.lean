/- Walks and plain laws, packed: Tree, Size, Sames, IMap, Forms. -/
import Derived.WalkKit
import Derived.WalkSpells
import Derived.Below
import Derived.Test.YtjjdmiaonkailaaGreatDoorProg
import Derived.Test.YtjjdmiaonkailaaGreatDoorChecked
import Derived.Deep.QuietTactic
import Derived.BigQuiet
import Derived.WalkLawsBesides
import Derived.Lib.Hide
import Derived.WideShapes
import Derived.StillTailTactics
import Derived.Maps.OwnOps
import Derived.Maps.OwnSet
import Derived.Maps.OwnIn
namespace Go.Proofs.YtjjdmiaonkailaaGreatDoor
section
open Go.RowKit
inductive Tree where
 | node (op:Int) (s:ByteArray) (n:Int) (l:List Tree) (line:Int)
def Tree.op:Tree→Int | .node o _ _ _ _=>o
def Tree.s:Tree→ByteArray | .node _ s _ _ _=>s
def Tree.n:Tree→Int | .node _ _ n _ _=>n
def Tree.l:Tree→List Tree | .node _ _ _ l _=>l
def Tree.line:Tree→Int | .node _ _ _ _ i=>i
def Tree.ok (t:Tree):Prop:=t.s.size≤maxLen∧(Lit.int .i64 t.op).wf=true∧(Lit.int .i64 t.n).wf=true
def Kids (W:World):Nat→List Tree→Value→Prop
 | 0,l,v=>l=[] ∧ ∃ A c,v = .slice A 0 c
 | d+1,l,v=>l.length≤maxLen ∧ ∃ A c,v = .slice A l.length c ∧ ∀ (k:Nat) (t:Tree),l[k]? = some t → ∃ a sl,A=some a∧(a.block<W.heap.size∧l.length≤c)∧t.ok ∧
   W.cell? (a.add (k*5))=some (.int .i64 t.op)∧W.cell? ((a.add (k*5)).add 1)=some (.string t.s)∧W.cell? ((a.add (k*5)).add 2)=some (.int .i64 t.n)∧W.cell? ((a.add (k*5)).add 3)=some sl∧W.cell? ((a.add (k*5)).add 4)=some (.int .i64 t.line)∧Kids W d t.l sl
theorem Kids.below {W W':World} (hb:Below W.heap.size W W') : ∀ {d:Nat} {l:List Tree} {v:Value},Kids W d l v→Kids W' d l v
 | 0,_,_,h=>h
 | d+1,l,v,h=>by
  obtain ⟨hl,A,c,rfl,h⟩:=h
  refine ⟨hl,A,c,rfl,fun k t hk => ?_⟩
  obtain ⟨a,sl,rfl,hab,hs,c0,c1,c2,c3,c4,hk'⟩:=h k t hk
  have hbl : ∀ (x:Addr) j,(x.add j).block=x.block:=fun x j=>by unfold Addr.add;split <;> rfl
  have e : ∀ p:Addr,p.block=a.block→W'.cell? p=W.cell? p:=fun p hp=>World.cell?_of_block (hb.block _ (by rw [hp];exact hab.1))
  refine ⟨a,sl,rfl,⟨Nat.lt_of_lt_of_le hab.1 hb.size,hab.2⟩,hs,(e _ (hbl _ _)).trans c0,(e _ (by rw [hbl,hbl])).trans c1,(e _ (by rw [hbl,hbl])).trans c2,(e _ (by rw [hbl,hbl])).trans c3,(e _ (by rw [hbl,hbl])).trans c4,hk'.below hb⟩
def Tree.val (t:Tree) (sl:Value):Value := .agg #[.int .i64 t.op,.string t.s,.int .i64 t.n,sl,.int .i64 t.line]
end
section
open Go.RowKit
mutual
def Tree.size:Tree→Int→Int
 | .node _ _ _ l _,left=>sizes l (left-1)
def sizes:List Tree→Int→Int
 | [],left=>left
 | t::ts,left=>sizes ts (if 0≤left then t.size left else left)
end
theorem sizes_append : ∀ (a b:List Tree) (left:Int),sizes (a++b) left=sizes b (sizes a left)
 | [],b,left=>by simp [sizes]
 | t::a,b,left=>by
  simp only [List.cons_append,sizes]
  exact sizes_append a b _
theorem sizes_neg : ∀ (l:List Tree) {left:Int},left<0→sizes l left=left
 | [],_,_=>by simp [sizes]
 | t::l,left,h=>by
  simp only [sizes]
  rw [if_neg (by omega),sizes_neg l h]
theorem size_eq (t:Tree) (left:Int):t.size left=sizes t.l (left-1):=by
 cases t
 simp [Tree.size,Tree.l]
mutual
theorem size_le : ∀ (t:Tree) {left:Int},0≤left → -1≤t.size left∧t.size left≤left-1
 | .node _ _ _ l _,left,h=>by
  simp only [Tree.size]
  have:=sizes_le l (left:=left-1) (by omega)
  omega
theorem sizes_le : ∀ (l:List Tree) {left:Int},-1≤left → -1≤sizes l left∧sizes l left≤left
 | [],left,h=>by simp [sizes];omega
 | t::l,left,h=>by
  simp only [sizes]
  by_cases h0:0≤left
  ·rw [if_pos h0]
   have h1:=size_le t h0
   have h2:=sizes_le l (left:=t.size left) h1.1
   omega
  ·rw [if_neg h0]
   exact sizes_le l h
end
structure Blk5 (W:World) (g:Nat) (op:Int) (s:ByteArray) (n:Int) (sl:Value) (line:Int):Prop where
 c0:W.cell? ⟨g,0,none⟩=some (.int .i64 op)
 c1:W.cell? ⟨g,1,none⟩=some (.string s)
 c2:W.cell? ⟨g,2,none⟩=some (.int .i64 n)
 c3:W.cell? ⟨g,3,none⟩=some sl
 c4:W.cell? ⟨g,4,none⟩=some (.int .i64 line)
theorem Blk5.keep {W W':World} {g:Nat} {op n line:Int} {s:ByteArray} {sl:Value} (h:Blk5 W g op s n sl line) (hb:Below W.heap.size W W'):Blk5 W' g op s n sl line:=by
 have hlt:=World.block_lt_of_cell? W _ h.c0
 have e : ∀ i,W'.cell? ⟨g,i,none⟩=W.cell? ⟨g,i,none⟩:=fun i=>World.cell?_of_block (hb.block _ hlt)
 exact ⟨(e _).trans h.c0,(e _).trans h.c1,(e _).trans h.c2,(e _).trans h.c3,(e _).trans h.c4⟩
theorem blk5_new (W:World) (op:Int) (s:ByteArray) (n:Int) (sl:Value) (line:Int):Blk5 (W.alloc (.cells #[.int .i64 op,.string s,.int .i64 n,sl,.int .i64 line] 29)) W.heap.size op s n sl line:=by
 have h:=heap_alloc_new W (.cells #[.int .i64 op,.string s,.int .i64 n,sl,.int .i64 line] 29)
 have e : ∀ i,(W.alloc (.cells #[.int .i64 op,.string s,.int .i64 n,sl,.int .i64 line] 29)).cell? ⟨W.heap.size,i,none⟩=#[.int .i64 op,.string s,.int .i64 n,sl,.int .i64 line][i]? := fun i=>cell_of_row _ _ _ _ _ (0,0) h
 exact ⟨e 0,e 1,e 2,e 3,e 4⟩
set_option maxHeartbeats 2000000 in
theorem size_calls : ∀ (d:Nat) (w:World) (t:Tree) (sl:Value) (left:Int),Kids w d t.l sl→0≤left→left≤2000 →
  Calls Tryz.prog 38 #[.agg #[.int .i64 t.op,.string t.s,.int .i64 t.n,sl,.int .i64 t.line],.int .i64 left] w fun e w'=>e = .returned (.int .i64 (t.size left))∧Below w.heap.size w w'
 | 0,w,t,sl,left,hk,h0,h1=>by
  obtain ⟨hl,A,c,rfl⟩:=hk
  have hs:t.size left=left-1:=by rw [size_eq,hl];simp [sizes]
  have HS:=Lib.hid hs
  clear hs hl
  go_enter Tryz.func38,Tryz.ntmps38
  go_wp2
  go_loopw [1,5] (fun l i wr=>i = .int .i64 0∧l = .int .i64 (left-1)∧wr=w.alloc (.cells #[.int .i64 t.op,.string t.s,.int .i64 t.n,.slice A 0 c,.int .i64 t.line] 29)) (fun _ _ _=>0)
  case atStart=>exact ⟨rfl,rfl,rfl⟩
  case round =>
   obtain ⟨rfl,rfl,rfl⟩:=hrel
   go_wp2
   go_ret
   exact ⟨by rw [HS.out];rfl,(Below.refl _ _).alloc (Nat.le_refl _) _⟩
 | d+1,w,t,sl,left,hk,h0,h1=>by
  have IH:=Lib.hid (size_calls d)
  obtain ⟨hl,A,c,rfl,hkids⟩:=hk
  unfold maxLen at hl
  have HK:=Lib.hid hkids
  have HS:=Lib.hid (size_eq t left)
  have hbox:Hid (Blk5 (w.alloc (.cells #[.int .i64 t.op,.string t.s,.int .i64 t.n,.slice A t.l.length c,.int .i64 t.line] 29)) w.heap.size t.op t.s t.n (.slice A t.l.length c) t.line):=blk5_new _ _ _ _ _ _
  clear hkids
  go_enter Tryz.func38,Tryz.ntmps38
  go_wp2
  go_loopw [1,5] (fun l i wr => ∃ k:Nat,k≤t.l.length∧i = .int .i64 k∧l = .int .i64 (sizes (t.l.take k) (left-1))∧Below w.heap.size w wr∧Blk5 wr w.heap.size t.op t.s t.n (.slice A t.l.length c) t.line) (fun _ i _=>t.l.length-(intOf i).toNat)
  case atStart=>exact ⟨0,by omega,rfl,by simp [sizes],(Below.refl _ _).alloc (Nat.le_refl _) _,hbox.out⟩
  case round =>
   clear hbox
   obtain ⟨k,hk,rfl,rfl,hb,hbx⟩:=hrel
   have HBX:=Lib.hid hbx
   have hb3:=hbx.c3
   have HB:=Lib.hid hb
   have hcur:=sizes_le (t.l.take k) (left:=left-1) (by omega)
   have HNX:Hid (∀ y,t.l[k]? = some y→sizes (t.l.take (k+1)) (left-1)=if 0≤sizes (t.l.take k) (left-1) then y.size (sizes (t.l.take k) (left-1)) else sizes (t.l.take k) (left-1)):=by
    refine Lib.hid fun y hy => ?_
    rw [List.take_add_one,hy,sizes_append]
    simp [sizes]
   have HEND:Hid (sizes (t.l.take k) (left-1)<0∨k=t.l.length→sizes (t.l.take k) (left-1)=t.size left):=by
    refine Lib.hid fun h => ?_
    rw [HS.out]
    rcases h with h | h
    ·have e:=sizes_append (t.l.take k) (t.l.drop k) (left-1)
     rw [List.take_append_drop] at e
     rw [e,sizes_neg _ h]
    ·rw [h,List.take_length]
   generalize sizes (t.l.take k) (left-1)=cur at hcur HNX HEND
   clear hbx hb
   by_cases hlt:k<t.l.length
   ·by_cases hc0:0≤cur
    ·have hy:t.l[k]? = some t.l[k]:=List.getElem?_eq_getElem hlt
     generalize t.l[k]=y at hy
     obtain ⟨a,sl,rfl,hab,hys,c0,c1,c2,c3,c4,hkd⟩:=HK.out k y hy
     have HY:=Lib.hid (HNX.out y hy)
     have hbl : ∀ (x:Addr) j,(x.add j).block=x.block:=fun x j=>by unfold Addr.add;split <;> rfl
     have e : ∀ p:Addr,p.block=a.block→wr.cell? p=w.cell? p:=fun p hp=>World.cell?_of_block (HB.out.block _ (by rw [hp];exact hab.1))
     have d0:=(e _ (hbl _ _)).trans c0
     have d1:wr.cell? ⟨(a.add (k*5)).block,(a.add (k*5)).off+1,none⟩=some (.string y.s):=(e ((a.add (k*5)).add 1) ((hbl _ _).trans (hbl _ _))).trans c1
     have d2:wr.cell? ⟨(a.add (k*5)).block,(a.add (k*5)).off+2,none⟩=some (.int .i64 y.n):=(e ((a.add (k*5)).add 2) ((hbl _ _).trans (hbl _ _))).trans c2
     have d3:wr.cell? ⟨(a.add (k*5)).block,(a.add (k*5)).off+3,none⟩=some sl:=(e ((a.add (k*5)).add 3) ((hbl _ _).trans (hbl _ _))).trans c3
     have d4:wr.cell? ⟨(a.add (k*5)).block,(a.add (k*5)).off+4,none⟩=some (.int .i64 y.line):=(e ((a.add (k*5)).add 4) ((hbl _ _).trans (hbl _ _))).trans c4
     have HKD:=Lib.hid (hkd.below HB.out)
     have hyl:=size_le y hc0
     clear c0 c1 c2 c3 c4 hkd e hbl hy
     go_wp2_with fail
     refine (IH.out wr y sl cur HKD.out hc0 (by omega)).mono ?_
     rintro e w' ⟨rfl,hb'⟩
     have HB':=Lib.hid (HB.out.trans (hb'.mono HB.out.size))
     have HBX':=Lib.hid (HBX.out.keep hb')
     clear hb' d0 d1 d2 d3 d4
     go_wp2
     go_roundw
     case rel=>exact ⟨k+1,by omega,by go_num,by rw [HY.out,if_pos hc0],HB'.out,HBX'.out⟩
     case measure=>simp [intOf];omega
    ·go_wp2
     go_ret
     exact ⟨by rw [← HEND.out (.inl (by omega))];rfl,HB.out⟩
   ·obtain rfl:k=t.l.length:=by omega
    have hd:decide ((t.l.length:Int)<(t.l.length:Int))=false:=by simp
    go_wp2
    go_ret
    exact ⟨by rw [← HEND.out (.inr trivial)];rfl,HB.out⟩
def Tree.small (t:Tree):Prop:=0≤t.size 1500
instance (t:Tree):Decidable t.small:=inferInstanceAs (Decidable (0≤t.size 1500))
mutual
def Tree.count:Tree→Nat
 | .node _ _ _ l _=>counts l+1
def counts:List Tree→Nat
 | []=>0
 | t::ts=>t.count+counts ts
end
mutual
theorem size_count : ∀ (t:Tree) {left:Int},0≤t.size left→t.size left=left-t.count
 | .node _ _ _ l _,left,h=>by
  simp only [Tree.size,Tree.count] at h ⊢
  have:=sizes_count l h
  omega
theorem sizes_count : ∀ (l:List Tree) {left:Int},0≤sizes l left→sizes l left=left-counts l
 | [],left,_=>by simp [sizes,counts]
 | t::l,left,h=>by
  simp only [sizes,counts] at h ⊢
  by_cases h0:0≤left
  ·rw [if_pos h0] at h ⊢
   have h1:0≤t.size left:=by
    by_cases h1:t.size left<0
    ·rw [sizes_neg l h1] at h;omega
    ·omega
   rw [sizes_count l h,size_count t h1]
   omega
  ·rw [if_neg h0,sizes_neg l (by omega)] at h
   omega
end
theorem Tree.small.count {t:Tree} (h:t.small):t.count≤1500:=by
 have:=size_count t h
 unfold Tree.small at h
 omega
set_option maxHeartbeats 2000000 in
theorem small_calls (d:Nat) (w:World) (t:Tree) (sl:Value) (hk:Kids w d t.l sl) :
  Calls Tryz.prog 20 #[.agg #[.int .i64 t.op,.string t.s,.int .i64 t.n,sl,.int .i64 t.line]] w fun e w'=>e = .returned (.int .i64 (if t.small then 1 else 0))∧Below w.heap.size w w':=by
 obtain ⟨w0,hw0⟩ : ∃ w0,w.alloc (.cells #[.int .i64 t.op,.string t.s,.int .i64 t.n,sl,.int .i64 t.line] 29)=w0:=⟨_,rfl⟩
 have bx:Blk5 w0 w.heap.size t.op t.s t.n sl t.line:=by rw [← hw0];exact blk5_new _ _ _ _ _ _
 have hb0:Below w.heap.size w w0:=by rw [← hw0];exact (Below.refl _ _).alloc (Nat.le_refl _) _
 have HK:=Lib.hid (hk.below hb0)
 have HB0:=Lib.hid hb0
 obtain ⟨c0,c1,c2,c3,c4⟩:=bx
 clear hk hb0
 by_cases hs:t.small
 ·have hs':0≤t.size 1500:=hs
  rw [if_pos hs]
  have hd:decide (t.size 1500<0)=false:=by simp;omega
  clear hs
  go_enter Tryz.func20,Tryz.ntmps20
  go_wp2_with (go_at_call 38;refine (size_calls d w0 t sl 1500 HK.out (by decide) (by decide)).mono ?_;rintro e w' ⟨rfl,hb'⟩;have HB':=Lib.hid hb';clear hb')
  go_ret
  exact ⟨rfl,HB0.out.trans (HB'.out.mono HB0.out.size)⟩
 ·have hs':t.size 1500<0:=by unfold Tree.small at hs;omega
  rw [if_neg hs]
  have hd:decide (t.size 1500<0)=true:=by simpa using hs'
  clear hs
  go_enter Tryz.func20,Tryz.ntmps20
  go_wp2_with (go_at_call 38;refine (size_calls d w0 t sl 1500 HK.out (by decide) (by decide)).mono ?_;rintro e w' ⟨rfl,hb'⟩;have HB':=Lib.hid hb';clear hb')
  go_ret
  exact ⟨rfl,HB0.out.trans (HB'.out.mono HB0.out.size)⟩
end
section
open Go.RowKit
mutual
def Tree.same:Tree→Tree→Bool
 | .node o s n l _,.node o' s' n' l' _=>decide (o=o')&&decide (s=s')&&decide (n=n')&&sames l l'
def sames:List Tree→List Tree→Bool
 | [],[]=>true
 | t::ts,u::us=>t.same u&&sames ts us
 | _,_=>false
end
theorem same_eq (t u:Tree):t.same u=(decide (t.op=u.op)&&decide (t.s=u.s)&&decide (t.n=u.n)&&sames t.l u.l):=by
 cases t;cases u
 simp only [Tree.same,Tree.op,Tree.s,Tree.n,Tree.l]
 congr
theorem sames_len : ∀ {l m:List Tree},l.length≠m.length→sames l m=false
 | [],[],h=>(h rfl).elim
 | t::ts,u::us,h=>by
  simp only [sames]
  rw [sames_len (by simpa using h)]
  simp
 | [],_::_,_=>by simp [sames]
 | _::_,[],_=>by simp [sames]
theorem sames_at : ∀ {l m:List Tree} {k:Nat} {t u:Tree},l[k]? = some t→m[k]? = some u→t.same u=false→sames l m=false
 | t'::ts,u'::us,0,t,u,h1,h2,h=>by
  simp at h1 h2
  subst h1 h2
  simp [sames,h]
 | t'::ts,u'::us,k+1,t,u,h1,h2,h=>by
  simp only [sames]
  rw [sames_at (l:=ts) (m:=us) (k:=k) (by simpa using h1) (by simpa using h2) h]
  simp
 | [],_,_,_,_,h1,_,_=>by simp at h1
 | _::_,[],_,_,_,_,h2,_=>by simp at h2
theorem sames_all : ∀ {l m:List Tree},l.length=m.length→(∀ (k:Nat) (t u:Tree),l[k]? = some t→m[k]? = some u→t.same u=true)→sames l m=true
 | [],[],_,_=>by simp [sames]
 | t::ts,u::us,hl,h=>by
  simp only [sames]
  rw [h 0 t u (by simp) (by simp),sames_all (by simpa using hl) (fun k a b ha hb=>h (k+1) a b (by simpa using ha) (by simpa using hb))]
  rfl
 | [],_::_,hl,_=>by simp at hl
 | _::_,[],hl,_=>by simp at hl
theorem Kids.form {W:World} : ∀ {d:Nat} {l:List Tree} {v:Value},Kids W d l v→l.length≤maxLen ∧ ∃ A c,v = .slice A l.length c
 | 0,l,v,h=>by
  obtain ⟨rfl,A,c,rfl⟩:=h
  exact ⟨by simp [maxLen],A,c,rfl⟩
 | d+1,l,v,h=>by
  obtain ⟨hl,A,c,rfl,_⟩:=h
  exact ⟨hl,A,c,rfl⟩
structure NodeAt (W:World) (q:Addr) (t:Tree) (sl:Value):Prop where
 c0:W.cell? q=some (.int .i64 t.op)
 c1:W.cell? ⟨q.block,q.off+1,none⟩=some (.string t.s)
 c2:W.cell? ⟨q.block,q.off+2,none⟩=some (.int .i64 t.n)
 c3:W.cell? ⟨q.block,q.off+3,none⟩=some sl
 c4:W.cell? ⟨q.block,q.off+4,none⟩=some (.int .i64 t.line)
theorem NodeAt.below {W W':World} {q:Addr} {t:Tree} {sl:Value} (h:NodeAt W q t sl) (hb:Below W.heap.size W W'):NodeAt W' q t sl:=by
 have hlt:=World.block_lt_of_cell? W _ h.c0
 have e : ∀ p:Addr,p.block=q.block→W'.cell? p=W.cell? p:=fun p hp=>World.cell?_of_block (hb.block _ (by rw [hp];exact hlt))
 exact ⟨(e _ rfl).trans h.c0,(e ⟨q.block,q.off+1,none⟩ rfl).trans h.c1,(e ⟨q.block,q.off+2,none⟩ rfl).trans h.c2,(e ⟨q.block,q.off+3,none⟩ rfl).trans h.c3,(e ⟨q.block,q.off+4,none⟩ rfl).trans h.c4⟩
theorem Kids.at_ {W:World} : ∀ {d:Nat} {l:List Tree} {A:Option Addr} {n c k:Nat} {t:Tree},Kids W d l (.slice A n c)→l[k]? = some t → ∃ a sl d1,d1<d∧A=some a∧NodeAt W (a.add (k*5)) t sl∧Kids W d1 t.l sl∧t.ok
 | 0,l,A,n,c,k,t,h,hk=>by
  obtain ⟨rfl,_⟩:=h
  simp at hk
 | d+1,l,A,n,c,k,t,h,hk=>by
  obtain ⟨hl,A',c',hv,h⟩:=h
  injection hv with h1 h2 h3
  subst h1
  obtain ⟨a,sl,rfl,hab,hs,c0,c1,c2,c3,c4,hd⟩:=h k t hk
  exact ⟨a,sl,d,by omega,rfl,⟨c0,c1,c2,c3,c4⟩,hd,hs⟩
end
section
open Go.RowKit
def heldI:Value→Option (DataW Value × List MemPlace):=fun v=>some (.held v,[])
def IMap (P:Program) (k:TypeId) (w:World) (b n:Nat) (f:Int→Option Value):Prop :=
 ∃ D:DataW Value,w.ownsMap P k heldI b n D∧(∀ s:Int,(Lit.int .i64 s).wf=true→Maps.has D (.int .i64 s)=(f s).isSome) ∧ ∀ (s:Int) v,(Lit.int .i64 s).wf=true→f s=some v → ∀ z,D.atKey (.int .i64 s) z = .held v
section
variable {P:Program} {k:TypeId} {w w':World} {b n:Nat} {f:Int→Option Value}
theorem IMap.isMap (h:IMap P k w b n f) : ∃ es clock,w.heap[b]? = some (.map es clock):=by
 obtain ⟨D,⟨es,clock,hb,_⟩,_⟩:=h
 exact ⟨es,clock,hb⟩
theorem IMap.lt (h:IMap P k w b n f):b<w.heap.size:=by
 obtain ⟨es,clock,hb⟩:=h.isMap
 exact (Array.getElem?_eq_some_iff.1 hb).1
theorem IMap.keep (h:IMap P k w b n f) (hk:w'.heap[b]? = w.heap[b]?):IMap P k w' b n f:=by
 obtain ⟨D,⟨es,clock,hb,r⟩,h2⟩:=h
 exact ⟨D,⟨es,clock,hk.trans hb,r⟩,h2⟩
theorem IMap.made (w:World) (P:Program) (k:TypeId):IMap P k (w.alloc (.map #[] 0)) w.heap.size 0 (fun _=>none) :=
 ⟨.map [],World.ownsMap_made w P k heldI,fun s _=>rfl,fun s v _ h=>by cases h⟩
theorem IMap.look (h:IMap P k w b n f) (hu:P.underlying k=some (.int .i64)) {t e:TypeId} (ht:P.underlying t=some (.map k e)) {z:Value} (hz:(zeroValue e).run P w = .ok z w)
  {s:Int} (hs:(Lit.int .i64 s).wf=true):(Instr.lookup t (.map (some b)) (.int .i64 s) true).run P w = .ok (.tuple #[(f s).getD z,.bool (f s).isSome]) w:=by
 obtain ⟨D,h1,h2,h3⟩:=h
 obtain ⟨v,ps,hrun,hv⟩:=h1.look_ok (Maps.int_keyed hu) ht hz (zd := .held z) (zp:=[]) rfl (Maps.keyOf_int_mk hu hs)
 rw [hrun,h2 s hs]
 cases hf:f s with
 | none =>
  have:=Maps.atKey_of_not_has (D:=D) (k := .int .i64 s) (by rw [h2 s hs,hf];rfl) (.held z)
  rw [this] at hv
  simp only [heldI,Option.some.injEq,Prod.mk.injEq,DataW.held.injEq] at hv
  rw [hv.1]
  rfl
 | some u =>
  rw [h3 _ _ hs hf] at hv
  simp only [heldI,Option.some.injEq,Prod.mk.injEq,DataW.held.injEq] at hv
  rw [hv.1]
  rfl
theorem IMap.store (h:IMap P k w b n f) (hu:P.underlying k=some (.int .i64)) {t e:TypeId} (ht:P.underlying t=some (.map k e)) (hn:n<maxLen)
  {s:Int} (hs:(Lit.int .i64 s).wf=true) (u:Value) : ∃ w',(Instr.mapUpdate t (.map (some b)) (.int .i64 s) u).run P w = .ok () w' ∧
   IMap P k w' b (n+1) (fun x=>if x=s then some u else f x)∧w.grownBy w' (some b):=by
 obtain ⟨D,h1,h2,h3⟩:=h
 obtain ⟨w',hrun,ho,hg⟩:=h1.update (Maps.int_keyed hu) ht hn (Maps.keyOf_int_mk hu hs) (val:=u) (d := .held u) (ps:=[]) rfl
 refine ⟨w',hrun,⟨_,ho,fun x hx => ?_,fun x v hx hv z => ?_⟩,hg⟩
 ·by_cases hxs:x=s
  ·subst hxs
   rw [Maps.has_put_same h1.isMap (show WideAt.IsKeyLit (.int .i64 x) from True.intro)]
   simp
  ·rw [Maps.has_put_other (by simpa using hxs),h2 x hx]
   simp [hxs]
 ·by_cases hxs:x=s
  ·subst hxs
   simp only [if_true,Option.some.injEq] at hv
   rw [Maps.atKey_put_same h1.isMap (show WideAt.IsKeyLit (.int .i64 x) from True.intro),hv]
  ·rw [Maps.atKey_put_other (by simpa using hxs)]
   exact h3 x v hx (by simpa [hxs] using hv) z
end
end
section
open Go.RowKit
def formV (fn:Nat) (lo hi:Int):Value := .agg #[.func (.func fn) #[] #[],.int .i64 lo,.int .i64 hi]
def formF (k:Int):Option (Nat × Int × Int) :=
 if k=1 then some (53,0,0)
 else if k=2 then some (54,0,0)
 else if k=3 then some (55,0,0)
 else if k=4 then some (54,0,0)
 else if k=5 then some (54,0,0)
 else if k=6 then some (54,0,0)
 else if k=7 then some (54,0,0)
 else if k=8 then some (54,0,0)
 else if k=9 then some (54,0,0)
 else if k=10 then some (56,1,201)
 else if k=11 then some (54,0,200)
 else if k=12 then some (55,1,1)
 else if k=13 then some (57,1,1)
 else if k=14 then some (54,2,2)
 else if k=15 then some (54,1,200)
 else if k=16 then some (54,1,200)
 else if k=17 then some (54,2,2)
 else if k=18 then some (58,2,2)
 else if k=19 then some (54,1,1)
 else if k=20 then some (54,1,1)
 else if k=21 then some (54,2,2)
 else if k=22 then some (54,2,2)
 else if k=23 then some (54,3,3)
 else if k=30 then some (53,0,1)
 else if k=31 then some (54,1,1)
 else if k=32 then some (54,0,1073741824)
 else if k=33 then some (54,2,3)
 else if k=34 then some (54,2,2)
 else if k=35 then some (53,2,2)
 else if k=36 then some (54,0,1)
 else if k=37 then some (54,1,1)
 else if k=38 then some (53,2,2)
 else if k=39 then some (54,0,0)
 else if k=40 then some (54,0,0)
 else if k=41 then some (53,1,201)
 else none
def formsAt (k:Int):Option Value:=(formF k).map fun x=>formV x.1 x.2.1 x.2.2
set_option maxRecDepth 100000 in
set_option maxHeartbeats 4000000 in
theorem forms_calls (w:World):Calls Tryz.prog 30 #[] w fun e w' => ∃ n f,e = .returned (.map (some w.heap.size))∧IMap Tryz.prog 3 w' w.heap.size n f∧(∀ k,f k=formsAt k)∧Below w.heap.size w w':=by
 have m0:=IMap.made w Tryz.prog 3
 have g0:Below w.heap.size w (w.alloc (.map #[] 0)):=(Below.refl _ _).alloc (Nat.le_refl _) _
 have hmm := @run_makeMap Tryz.prog
 obtain ⟨w1,r1,m1,q1⟩:=IMap.store (w:=w.alloc (.map #[] 0)) m0 Tryz.underlying3 Tryz.underlying56 (by decide) (s:=1) (by decide) (.agg #[.func (.func 53) #[] #[],.int .i64 0,.int .i64 0])
 have g1:=g0.grown q1 g0.size (fun j e=>by injection e with e;omega)
 clear q1 g0
 obtain ⟨w2,r2,m2,q2⟩:=IMap.store m1 Tryz.underlying3 Tryz.underlying56 (by decide) (s:=2) (by decide) (.agg #[.func (.func 54) #[] #[],.int .i64 0,.int .i64 0])
 have g2:=g1.grown q2 g1.size (fun j e=>by injection e with e;omega)
 clear q2 g1
 clear m1
 obtain ⟨w3,r3,m3,q3⟩:=IMap.store m2 Tryz.underlying3 Tryz.underlying56 (by decide) (s:=3) (by decide) (.agg #[.func (.func 55) #[] #[],.int .i64 0,.int .i64 0])
 have g3:=g2.grown q3 g2.size (fun j e=>by injection e with e;omega)
 clear q3 g2
 clear m2
 obtain ⟨w4,r4,m4,q4⟩:=IMap.store m3 Tryz.underlying3 Tryz.underlying56 (by decide) (s:=4) (by decide) (.agg #[.func (.func 54) #[] #[],.int .i64 0,.int .i64 0])
 have g4:=g3.grown q4 g3.size (fun j e=>by injection e with e;omega)
 clear q4 g3
 clear m3
 obtain ⟨w5,r5,m5,q5⟩:=IMap.store m4 Tryz.underlying3 Tryz.underlying56 (by decide) (s:=5) (by decide) (.agg #[.func (.func 54) #[] #[],.int .i64 0,.int .i64 0])
 have g5:=g4.grown q5 g4.size (fun j e=>by injection e with e;omega)
 clear q5 g4
 clear m4
 obtain ⟨w6,r6,m6,q6⟩:=IMap.store m5 Tryz.underlying3 Tryz.underlying56 (by decide) (s:=6) (by decide) (.agg #[.func (.func 54) #[] #[],.int .i64 0,.int .i64 0])
 have g6:=g5.grown q6 g5.size (fun j e=>by injection e with e;omega)
 clear q6 g5
 clear m5
 obtain ⟨w7,r7,m7,q7⟩:=IMap.store m6 Tryz.underlying3 Tryz.underlying56 (by decide) (s:=7) (by decide) (.agg #[.func (.func 54) #[] #[],.int .i64 0,.int .i64 0])
 have g7:=g6.grown q7 g6.size (fun j e=>by injection e with e;omega)
 clear q7 g6
 clear m6
 obtain ⟨w8,r8,m8,q8⟩:=IMap.store m7 Tryz.underlying3 Tryz.underlying56 (by decide) (s:=8) (by decide) (.agg #[.func (.func 54) #[] #[],.int .i64 0,.int .i64 0])
 have g8:=g7.grown q8 g7.size (fun j e=>by injection e with e;omega)
 clear q8 g7
 clear m7
 obtain ⟨w9,r9,m9,q9⟩:=IMap.store m8 Tryz.underlying3 Tryz.underlying56 (by decide) (s:=9) (by decide) (.agg #[.func (.func 54) #[] #[],.int .i64 0,.int .i64 0])
 have g9:=g8.grown q9 g8.size (fun j e=>by injection e with e;omega)
 clear q9 g8
 clear m8
 obtain ⟨w10,r10,m10,q10⟩:=IMap.store m9 Tryz.underlying3 Tryz.underlying56 (by decide) (s:=10) (by decide) (.agg #[.func (.func 56) #[] #[],.int .i64 1,.int .i64 201])
 have g10:=g9.grown q10 g9.size (fun j e=>by injection e with e;omega)
 clear q10 g9
 clear m9
 obtain ⟨w11,r11,m11,q11⟩:=IMap.store m10 Tryz.underlying3 Tryz.underlying56 (by decide) (s:=11) (by decide) (.agg #[.func (.func 54) #[] #[],.int .i64 0,.int .i64 200])
 have g11:=g10.grown q11 g10.size (fun j e=>by injection e with e;omega)
 clear q11 g10
 clear m10
 obtain ⟨w12,r12,m12,q12⟩:=IMap.store m11 Tryz.underlying3 Tryz.underlying56 (by decide) (s:=12) (by decide) (.agg #[.func (.func 55) #[] #[],.int .i64 1,.int .i64 1])
 have g12:=g11.grown q12 g11.size (fun j e=>by injection e with e;omega)
 clear q12 g11
 clear m11
 obtain ⟨w13,r13,m13,q13⟩:=IMap.store m12 Tryz.underlying3 Tryz.underlying56 (by decide) (s:=13) (by decide) (.agg #[.func (.func 57) #[] #[],.int .i64 1,.int .i64 1])
 have g13:=g12.grown q13 g12.size (fun j e=>by injection e with e;omega)
 clear q13 g12
 clear m12
 obtain ⟨w14,r14,m14,q14⟩:=IMap.store m13 Tryz.underlying3 Tryz.underlying56 (by decide) (s:=14) (by decide) (.agg #[.func (.func 54) #[] #[],.int .i64 2,.int .i64 2])
 have g14:=g13.grown q14 g13.size (fun j e=>by injection e with e;omega)
 clear q14 g13
 clear m13
 obtain ⟨w15,r15,m15,q15⟩:=IMap.store m14 Tryz.underlying3 Tryz.underlying56 (by decide) (s:=15) (by decide) (.agg #[.func (.func 54) #[] #[],.int .i64 1,.int .i64 200])
 have g15:=g14.grown q15 g14.size (fun j e=>by injection e with e;omega)
 clear q15 g14
 clear m14
 obtain ⟨w16,r16,m16,q16⟩:=IMap.store m15 Tryz.underlying3 Tryz.underlying56 (by decide) (s:=16) (by decide) (.agg #[.func (.func 54) #[] #[],.int .i64 1,.int .i64 200])
 have g16:=g15.grown q16 g15.size (fun j e=>by injection e with e;omega)
 clear q16 g15
 clear m15
 obtain ⟨w17,r17,m17,q17⟩:=IMap.store m16 Tryz.underlying3 Tryz.underlying56 (by decide) (s:=17) (by decide) (.agg #[.func (.func 54) #[] #[],.int .i64 2,.int .i64 2])
 have g17:=g16.grown q17 g16.size (fun j e=>by injection e with e;omega)
 clear q17 g16
 clear m16
 obtain ⟨w18,r18,m18,q18⟩:=IMap.store m17 Tryz.underlying3 Tryz.underlying56 (by decide) (s:=18) (by decide) (.agg #[.func (.func 58) #[] #[],.int .i64 2,.int .i64 2])
 have g18:=g17.grown q18 g17.size (fun j e=>by injection e with e;omega)
 clear q18 g17
 clear m17
 obtain ⟨w19,r19,m19,q19⟩:=IMap.store m18 Tryz.underlying3 Tryz.underlying56 (by decide) (s:=19) (by decide) (.agg #[.func (.func 54) #[] #[],.int .i64 1,.int .i64 1])
 have g19:=g18.grown q19 g18.size (fun j e=>by injection e with e;omega)
 clear q19 g18
 clear m18
 obtain ⟨w20,r20,m20,q20⟩:=IMap.store m19 Tryz.underlying3 Tryz.underlying56 (by decide) (s:=20) (by decide) (.agg #[.func (.func 54) #[] #[],.int .i64 1,.int .i64 1])
 have g20:=g19.grown q20 g19.size (fun j e=>by injection e with e;omega)
 clear q20 g19
 clear m19
 obtain ⟨w21,r21,m21,q21⟩:=IMap.store m20 Tryz.underlying3 Tryz.underlying56 (by decide) (s:=21) (by decide) (.agg #[.func (.func 54) #[] #[],.int .i64 2,.int .i64 2])
 have g21:=g20.grown q21 g20.size (fun j e=>by injection e with e;omega)
 clear q21 g20
 clear m20
 obtain ⟨w22,r22,m22,q22⟩:=IMap.store m21 Tryz.underlying3 Tryz.underlying56 (by decide) (s:=22) (by decide) (.agg #[.func (.func 54) #[] #[],.int .i64 2,.int .i64 2])
 have g22:=g21.grown q22 g21.size (fun j e=>by injection e with e;omega)
 clear q22 g21
 clear m21
 obtain ⟨w23,r23,m23,q23⟩:=IMap.store m22 Tryz.underlying3 Tryz.underlying56 (by decide) (s:=23) (by decide) (.agg #[.func (.func 54) #[] #[],.int .i64 3,.int .i64 3])
 have g23:=g22.grown q23 g22.size (fun j e=>by injection e with e;omega)
 clear q23 g22
 clear m22
 obtain ⟨w24,r24,m24,q24⟩:=IMap.store m23 Tryz.underlying3 Tryz.underlying56 (by decide) (s:=30) (by decide) (.agg #[.func (.func 53) #[] #[],.int .i64 0,.int .i64 1])
 have g24:=g23.grown q24 g23.size (fun j e=>by injection e with e;omega)
 clear q24 g23
 clear m23
 obtain ⟨w25,r25,m25,q25⟩:=IMap.store m24 Tryz.underlying3 Tryz.underlying56 (by decide) (s:=31) (by decide) (.agg #[.func (.func 54) #[] #[],.int .i64 1,.int .i64 1])
 have g25:=g24.grown q25 g24.size (fun j e=>by injection e with e;omega)
 clear q25 g24
 clear m24
 obtain ⟨w26,r26,m26,q26⟩:=IMap.store m25 Tryz.underlying3 Tryz.underlying56 (by decide) (s:=32) (by decide) (.agg #[.func (.func 54) #[] #[],.int .i64 0,.int .i64 1073741824])
 have g26:=g25.grown q26 g25.size (fun j e=>by injection e with e;omega)
 clear q26 g25
 clear m25
 obtain ⟨w27,r27,m27,q27⟩:=IMap.store m26 Tryz.underlying3 Tryz.underlying56 (by decide) (s:=33) (by decide) (.agg #[.func (.func 54) #[] #[],.int .i64 2,.int .i64 3])
 have g27:=g26.grown q27 g26.size (fun j e=>by injection e with e;omega)
 clear q27 g26
 clear m26
 obtain ⟨w28,r28,m28,q28⟩:=IMap.store m27 Tryz.underlying3 Tryz.underlying56 (by decide) (s:=34) (by decide) (.agg #[.func (.func 54) #[] #[],.int .i64 2,.int .i64 2])
 have g28:=g27.grown q28 g27.size (fun j e=>by injection e with e;omega)
 clear q28 g27
 clear m27
 obtain ⟨w29,r29,m29,q29⟩:=IMap.store m28 Tryz.underlying3 Tryz.underlying56 (by decide) (s:=35) (by decide) (.agg #[.func (.func 53) #[] #[],.int .i64 2,.int .i64 2])
 have g29:=g28.grown q29 g28.size (fun j e=>by injection e with e;omega)
 clear q29 g28
 clear m28
 obtain ⟨w30,r30,m30,q30⟩:=IMap.store m29 Tryz.underlying3 Tryz.underlying56 (by decide) (s:=36) (by decide) (.agg #[.func (.func 54) #[] #[],.int .i64 0,.int .i64 1])
 have g30:=g29.grown q30 g29.size (fun j e=>by injection e with e;omega)
 clear q30 g29
 clear m29
 obtain ⟨w31,r31,m31,q31⟩:=IMap.store m30 Tryz.underlying3 Tryz.underlying56 (by decide) (s:=37) (by decide) (.agg #[.func (.func 54) #[] #[],.int .i64 1,.int .i64 1])
 have g31:=g30.grown q31 g30.size (fun j e=>by injection e with e;omega)
 clear q31 g30
 clear m30
 obtain ⟨w32,r32,m32,q32⟩:=IMap.store m31 Tryz.underlying3 Tryz.underlying56 (by decide) (s:=38) (by decide) (.agg #[.func (.func 53) #[] #[],.int .i64 2,.int .i64 2])
 have g32:=g31.grown q32 g31.size (fun j e=>by injection e with e;omega)
 clear q32 g31
 clear m31
 obtain ⟨w33,r33,m33,q33⟩:=IMap.store m32 Tryz.underlying3 Tryz.underlying56 (by decide) (s:=39) (by decide) (.agg #[.func (.func 54) #[] #[],.int .i64 0,.int .i64 0])
 have g33:=g32.grown q33 g32.size (fun j e=>by injection e with e;omega)
 clear q33 g32
 clear m32
 obtain ⟨w34,r34,m34,q34⟩:=IMap.store m33 Tryz.underlying3 Tryz.underlying56 (by decide) (s:=40) (by decide) (.agg #[.func (.func 54) #[] #[],.int .i64 0,.int .i64 0])
 have g34:=g33.grown q34 g33.size (fun j e=>by injection e with e;omega)
 clear q34 g33
 clear m33
 obtain ⟨w35,r35,m35,q35⟩:=IMap.store m34 Tryz.underlying3 Tryz.underlying56 (by decide) (s:=41) (by decide) (.agg #[.func (.func 53) #[] #[],.int .i64 1,.int .i64 201])
 have g35:=g34.grown q35 g34.size (fun j e=>by injection e with e;omega)
 clear q35 g34
 clear m34
 have M:=Lib.hid m35
 have G:=Lib.hid g35
 clear m35 g35 m0
 go_enter Tryz.func30,Tryz.ntmps30
 go_wp2
 go_ret
 refine ⟨_,_,rfl,M.out,fun k => ?_,G.out⟩
 by_cases h1:k=1
 ·subst h1;rfl
 by_cases h2:k=2
 ·subst h2;rfl
 by_cases h3:k=3
 ·subst h3;rfl
 by_cases h4:k=4
 ·subst h4;rfl
 by_cases h5:k=5
 ·subst h5;rfl
 by_cases h6:k=6
 ·subst h6;rfl
 by_cases h7:k=7
 ·subst h7;rfl
 by_cases h8:k=8
 ·subst h8;rfl
 by_cases h9:k=9
 ·subst h9;rfl
 by_cases h10:k=10
 ·subst h10;rfl
 by_cases h11:k=11
 ·subst h11;rfl
 by_cases h12:k=12
 ·subst h12;rfl
 by_cases h13:k=13
 ·subst h13;rfl
 by_cases h14:k=14
 ·subst h14;rfl
 by_cases h15:k=15
 ·subst h15;rfl
 by_cases h16:k=16
 ·subst h16;rfl
 by_cases h17:k=17
 ·subst h17;rfl
 by_cases h18:k=18
 ·subst h18;rfl
 by_cases h19:k=19
 ·subst h19;rfl
 by_cases h20:k=20
 ·subst h20;rfl
 by_cases h21:k=21
 ·subst h21;rfl
 by_cases h22:k=22
 ·subst h22;rfl
 by_cases h23:k=23
 ·subst h23;rfl
 by_cases h30:k=30
 ·subst h30;rfl
 by_cases h31:k=31
 ·subst h31;rfl
 by_cases h32:k=32
 ·subst h32;rfl
 by_cases h33:k=33
 ·subst h33;rfl
 by_cases h34:k=34
 ·subst h34;rfl
 by_cases h35:k=35
 ·subst h35;rfl
 by_cases h36:k=36
 ·subst h36;rfl
 by_cases h37:k=37
 ·subst h37;rfl
 by_cases h38:k=38
 ·subst h38;rfl
 by_cases h39:k=39
 ·subst h39;rfl
 by_cases h40:k=40
 ·subst h40;rfl
 by_cases h41:k=41
 ·subst h41;rfl
 simp only [formsAt,formF,h1,h2,h3,h4,h5,h6,h7,h8,h9,h10,h11,h12,h13,h14,h15,h16,h17,h18,h19,h20,h21,h22,h23,h30,h31,h32,h33,h34,h35,h36,h37,h38,h39,h40,h41,if_false,Option.map_none]
end
end Go.Proofs.YtjjdmiaonkailaaGreatDoor
