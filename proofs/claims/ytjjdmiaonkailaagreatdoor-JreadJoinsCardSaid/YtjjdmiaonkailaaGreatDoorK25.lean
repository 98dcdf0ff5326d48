/- Walks and plain laws, packed: RdZa. -/
import Derived.Test.YtjjdmiaonkailaaGreatDoorK24
namespace Go.Proofs.YtjjdmiaonkailaaGreatDoor
section
open Go.RowKit Go.Sort
structure RstJ (w:World) (B rb:Nat) (tx:ByteArray) (st:Obj) (acc:List Tree) (W:World):Prop where
 lo:w.heap.size+1<B
 rc:W.heap[B+1+1+1]? = some st
 dd:W.heap[B+1+1]? = some (.deferred (some []))
 bx0:Blk W w.heap.size 53 #[rdP rb]
 out : ∃ A c,Blk W (w.heap.size+1) 27 #[.slice A acc.length c]∧RowT (B+1+1+1+1) W acc (.slice A acc.length c)
 bx1:Blk W (B) 53 #[rdP rb]
 bx2:Blk W (B+1) 9 #[.string tx]
 tn:TurnR rb w W
section
variable {w W W':World} {rb B:Nat} {tx:ByteArray} {st:Obj} {acc:List Tree}
theorem RstJ.size (h:RstJ w B rb tx st acc W):B+1+1+1<W.heap.size:=(Array.getElem?_eq_some_iff.1 h.rc).1
theorem RstJ.tr (h:RstJ w B rb tx st acc W) (hrb:rb<w.heap.size) (t:TurnR rb W W'):RstJ w B rb tx st acc W':=by
 have hsz:=h.size
 have hlo:=h.lo
 obtain ⟨A,c,h1,h2⟩:=h.out
 exact ⟨h.lo,(t.block _ (by omega) (by omega)).trans h.rc,(t.block _ (by omega) (by omega)).trans h.dd,h.bx0.tr t (by omega),⟨A,c,h1.tr t (by omega),h2.tr t (by omega)⟩,h.bx1.tr t (by omega),h.bx2.tr t (by omega),TurnR.trans h.tn t⟩
theorem RstJ.turned (h:RstJ w B rb tx st acc W) (st':Obj):RstJ w B rb tx st' acc (W.putObj (B+1+1+1) st'):=by
 have hsz:=h.size
 have hlo:=h.lo
 have t:=turnPut W (B+1+1+1) st'
 have hk : ∀ k,k≠B+1+1+1→k<W.heap.size→(W.putObj (B+1+1+1) st').heap[k]? = W.heap[k]? := fun k hk hs=>t.block k hs hk
 obtain ⟨A,c,h1,h2⟩:=h.out
 refine ⟨h.lo,by simp [World.putObj,hsz],(hk _ (by omega) (by omega)).trans h.dd,h.bx0.keep (hk _ (by omega) (by omega)),⟨A,c,h1.keep (hk _ (by omega) (by omega)),h2.turn (fun k hk' hs=>hk k (by omega) hs) t.size⟩,h.bx1.keep (hk _ (by omega) (by omega)),h.bx2.keep (hk _ (by omega) (by omega)),?_⟩
 exact Turn.trans h.tn t (fun k hk e=>absurd e (by omega))
theorem RstJ.cells (h:RstJ w B rb tx st acc W) (hrb:rb<w.heap.size):rb<W.heap.size∧(B<W.heap.size∧W.cell? ⟨B,0,none⟩=some (rdP rb))∧(B+1<W.heap.size∧W.cell? ⟨B+1,0,none⟩=some (.string tx)):=by
 have hsz:=h.size
 have hlo:=h.lo
 exact ⟨by omega,⟨by omega,h.bx1.cell 0⟩,by omega,h.bx2.cell 0⟩
end
section
variable {w Wa w8:World} {rb B last d g n cap o o1 o2 o3 o4 m c:Nat} {tx:ByteArray} {st:Obj} {r:List Tl} {acc:List Tree} {z:Tree} {A:Option Addr} {own:Option Nat}
theorem RstJ.pushed {W':World} (hj:RstJ w B rb tx st acc Wa) (hgr:Wa.grownBy w8 own) (hown : ∀ k,own=some k→B+1+1+1+1≤k) (hn:n=acc.length+1)
  (hk : ∀ k,k<B+1+1+1+1→k≠w.heap.size+1→W'.heap[k]? = w8.heap[k]?) (hb:Blk W' (w.heap.size+1) 27 #[.slice (some ⟨g,0,none⟩) n cap]) (hrow:RowT (B+1+1+1+1) W' (acc++[z]) (.slice (some ⟨g,0,none⟩) n cap)) (htn:TurnR rb w W'):RstJ w B rb tx st (acc++[z]) W':=by
 subst hn
 have hsz:=hj.size
 have hlo:=hj.lo
 have hb8 : ∀ k,k<B+1+1+1+1→k≠w.heap.size+1→W'.heap[k]? = Wa.heap[k]? := fun k h1 h2=>(hk k h1 h2).trans (hgr.block k (by omega) (fun e=>by have:=hown k e.symm;omega))
 refine ⟨hlo,(hb8 _ (by omega) (by omega)).trans hj.rc,(hb8 _ (by omega) (by omega)).trans hj.dd,hj.bx0.keep (hb8 _ (by omega) (by omega)),⟨some ⟨g,0,none⟩,cap,?_,?_⟩,hj.bx1.keep (hb8 _ (by omega) (by omega)),hj.bx2.keep (hb8 _ (by omega) (by omega)),htn⟩
 ·rw [List.length_append,List.length_singleton];exact hb
 ·rw [List.length_append,List.length_singleton];exact hrow
theorem RstJ.app_a (hrb:rb<w.heap.size) (hj:RstJ w B rb tx st acc Wa) (hgr:Wa.grownBy w8 own) (hown : ∀ k,own=some k→B+1+1+1+1≤k) (hg:B+1+1+1+1≤g) (hs8:St w8 rb last r) (hrow:RowT (B+1+1+1+1) w8 (acc++[zeroT]) (.slice (some ⟨g,0,none⟩) n cap)) (hn:n=acc.length+1) (ho:o=acc.length*5) (hm:m=z.l.length) (hok:z.ok)
  (htz:TrP (fun k=>B+1+1+1+1≤k∧g≠k) w8 d z.l (.slice A z.l.length c)) (e1:o1=o+1) (e2:o2=o+2) (e3:o3=o+3) (e4:o4=o+4) :
  RstJ w B rb tx st (acc++[z]) ((((((w8.setCell ⟨g,o,none⟩ (.int .i64 z.op)).setCell ⟨g,o1,none⟩ (.string z.s)).setCell ⟨g,o2,none⟩ (.int .i64 z.n)).setCell ⟨g,o3,none⟩ (.slice A m c)).setCell ⟨g,o4,none⟩ (.int .i64 z.line)).setCell ⟨w.heap.size+1,0,none⟩ (.slice (some ⟨g,0,none⟩) n cap)) ∧
  St ((((((w8.setCell ⟨g,o,none⟩ (.int .i64 z.op)).setCell ⟨g,o1,none⟩ (.string z.s)).setCell ⟨g,o2,none⟩ (.int .i64 z.n)).setCell ⟨g,o3,none⟩ (.slice A m c)).setCell ⟨g,o4,none⟩ (.int .i64 z.line)).setCell ⟨w.heap.size+1,0,none⟩ (.slice (some ⟨g,0,none⟩) n cap)) rb last r:=by
 subst hm e1 e2 e3 e4
 have hlo:=hj.lo
 have hsz:=hj.size
 obtain ⟨A0,c0,hb0,_⟩:=hj.out
 have hb8:=hb0.grown hgr (fun e=>by have:=hown _ e.symm;omega)
 have hq:=(hb8.set5at (g:=g) (by omega) o (.int .i64 z.op) (.string z.s) (.int .i64 z.n) (.slice A z.l.length c) (.int .i64 z.line)).set_ 0 (.slice (some ⟨g,0,none⟩) n cap)
 have hput:=(RowT.put hrow ho rfl hok htz).far (p:=⟨w.heap.size+1,0,none⟩) (by show w.heap.size+1<_;omega) (.slice (some ⟨g,0,none⟩) n cap)
 have ht8:TurnR rb w w8:=TurnR.grown hj.tn hgr (fun k e=>by have:=hown k e;omega)
 refine ⟨RstJ.pushed hj hgr hown hn (fun k h1 h2 => ?_) (by simpa [sets5at] using hq) hput ?_,(hs8.set5at (by omega) o (.int .i64 z.op) (.string z.s) (.int .i64 z.n) (.slice A z.l.length c) (.int .i64 z.line)).set' (g:=w.heap.size+1) (j:=0) (by omega) _⟩
 ·rw [Below.heap_setCell _ _ _ _ h2,Below.heap_setCell _ _ _ _ (by show k≠g;omega),Below.heap_setCell _ _ _ _ (by show k≠g;omega),Below.heap_setCell _ _ _ _ (by show k≠g;omega),Below.heap_setCell _ _ _ _ (by show k≠g;omega),Below.heap_setCell _ _ _ _ (by show k≠g;omega)]
 ·exact ((((((ht8.set (p:=⟨g,o,none⟩) (by show w.heap.size≤g;omega) _).set (p:=⟨g,o+1,none⟩) (by show w.heap.size≤g;omega) _).set (p:=⟨g,o+2,none⟩) (by show w.heap.size≤g;omega) _).set (p:=⟨g,o+3,none⟩) (by show w.heap.size≤g;omega) _).set (p:=⟨g,o+4,none⟩) (by show w.heap.size≤g;omega) _).set (p:=⟨w.heap.size+1,0,none⟩) (by show w.heap.size≤w.heap.size+1;omega) _)
theorem RstJ.app_b (hrb:rb<w.heap.size) (hj:RstJ w B rb tx st acc Wa) (hgr:Wa.grownBy w8 own) (hown : ∀ k,own=some k→B+1+1+1+1≤k) (hg:B+1+1+1+1≤g) (hs8:St w8 rb last r) (hrow:RowT (B+1+1+1+1) w8 (acc++[zeroT]) (.slice (some ⟨g,0,none⟩) n cap)) (hn:n=acc.length+1) (ho:o=acc.length*5) (hm:m=z.l.length) (hok:z.ok)
  (htz:TrP (fun k=>B+1+1+1+1≤k∧g≠k) w8 d z.l (.slice A z.l.length c)) (e1:o1=o+1) (e2:o2=o+2) (e3:o3=o+3) (e4:o4=o+4) :
  RstJ w B rb tx st (acc++[z]) ((((((w8.setCell ⟨w.heap.size+1,0,none⟩ (.slice (some ⟨g,0,none⟩) n cap)).setCell ⟨g,o,none⟩ (.int .i64 z.op)).setCell ⟨g,o1,none⟩ (.string z.s)).setCell ⟨g,o2,none⟩ (.int .i64 z.n)).setCell ⟨g,o3,none⟩ (.slice A m c)).setCell ⟨g,o4,none⟩ (.int .i64 z.line)) ∧
  St ((((((w8.setCell ⟨w.heap.size+1,0,none⟩ (.slice (some ⟨g,0,none⟩) n cap)).setCell ⟨g,o,none⟩ (.int .i64 z.op)).setCell ⟨g,o1,none⟩ (.string z.s)).setCell ⟨g,o2,none⟩ (.int .i64 z.n)).setCell ⟨g,o3,none⟩ (.slice A m c)).setCell ⟨g,o4,none⟩ (.int .i64 z.line)) rb last r:=by
 subst hm e1 e2 e3 e4
 have hlo:=hj.lo
 have hsz:=hj.size
 obtain ⟨A0,c0,hb0,_⟩:=hj.out
 have hb8:=hb0.grown hgr (fun e=>by have:=hown _ e.symm;omega)
 have hq:Blk (w8.setCell ⟨w.heap.size+1,0,none⟩ (.slice (some ⟨g,0,none⟩) n cap)) (w.heap.size+1) 27 #[.slice (some ⟨g,0,none⟩) n cap]:=by
  have hq:=hb8.set_ 0 (.slice (some ⟨g,0,none⟩) n cap)
  simpa using hq
 have ht8:TurnR rb w w8:=TurnR.grown hj.tn hgr (fun k e=>by have:=hown k e;omega)
 have hp:(⟨w.heap.size+1,0,none⟩:Addr).block<B+1+1+1+1:=by show w.heap.size+1<_;omega
 refine ⟨RstJ.pushed hj hgr hown hn (fun k h1 h2 => ?_) (hq.set5at (g:=g) (by omega) o _ _ _ _ _) (RowT.put (hrow.far hp _) ho rfl hok (htz.far (p:=⟨w.heap.size+1,0,none⟩) (fun h=>absurd h.1 (by show ¬ (_≤w.heap.size+1);omega)) _)) ?_,(hs8.set' (g:=w.heap.size+1) (j:=0) (by omega) _).set5at (by omega) o _ _ _ _ _⟩
 ·rw [Below.heap_setCell _ _ _ _ (by show k≠g;omega),Below.heap_setCell _ _ _ _ (by show k≠g;omega),Below.heap_setCell _ _ _ _ (by show k≠g;omega),Below.heap_setCell _ _ _ _ (by show k≠g;omega),Below.heap_setCell _ _ _ _ (by show k≠g;omega),Below.heap_setCell _ _ _ _ h2]
 ·exact ((((((ht8.set (p:=⟨w.heap.size+1,0,none⟩) (by show w.heap.size≤w.heap.size+1;omega) _).set (p:=⟨g,o,none⟩) (by show w.heap.size≤g;omega) _).set (p:=⟨g,o+1,none⟩) (by show w.heap.size≤g;omega) _).set (p:=⟨g,o+2,none⟩) (by show w.heap.size≤g;omega) _).set (p:=⟨g,o+3,none⟩) (by show w.heap.size≤g;omega) _).set (p:=⟨g,o+4,none⟩) (by show w.heap.size≤g;omega) _)
end
section
variable {w W:World} {rb B:Nat} {tx:ByteArray} {st:Obj} {acc:List Tree}
theorem RstJ.keepAll {W':World} (h:RstJ w B rb tx st acc W) (hb : ∀ k,k<W.heap.size→W'.heap[k]? = W.heap[k]?) (hsz:W.heap.size≤W'.heap.size) (ht:TurnR rb w W'):RstJ w B rb tx st acc W':=by
 have hs:=h.size
 have hlo:=h.lo
 obtain ⟨A,c,h1,h2⟩:=h.out
 exact ⟨hlo,(hb _ (by omega)).trans h.rc,(hb _ (by omega)).trans h.dd,h.bx0.keep (hb _ (by omega)),⟨A,c,h1.keep (hb _ (by omega)),h2.turn (fun k _ hs=>hb k hs) hsz⟩,h.bx1.keep (hb _ (by omega)),h.bx2.keep (hb _ (by omega)),ht⟩
theorem RstJ.dr (h:RstJ w B rb tx st acc W):RstJ w B rb tx st acc W.drew:=h.keepAll (fun _ _=>rfl) (Nat.le_refl _) (TurnR.dr h.tn)
theorem RstJ.al (h:RstJ w B rb tx st acc W) (o:Obj):RstJ w B rb tx st acc (W.alloc o):=h.keepAll (fun k hk=>(Keep.alloc 0 W o).blk k (Nat.zero_le _) hk) (Keep.alloc 0 W o).size (TurnR.al h.tn o)
end
theorem TurnR.putB {rb B:Nat} {w W:World} (h:TurnR rb w W) (hB:w.heap.size≤B+1+1):TurnR rb w (W.putObj (B+1+1) (.deferred none)):=Turn.trans h (turnPut W _ _) (fun k hk e=>absurd e (by omega))
theorem RowT.putB {b B:Nat} {W:World} {acc:List Tree} {v:Value} (h:RowT b W acc v) (hB:B+1+1<b):RowT b (W.putObj (B+1+1) (.deferred none)) acc v :=
 h.turn (fun k hk hs=>(turnPut W (B+1+1) (.deferred none)).block k hs (by omega)) (turnPut W _ _).size
theorem endR {rb last B:Nat} {w W9:World} {tx:ByteArray} {Rc:LoopState→Option Code→Obj} {a:List Tree} {r:List Tl} (hlt:rb<w.heap.size) (hj:RstJ w B rb tx (Rc .busy none) a W9) (hs:St W9 rb last r):W9.heap[B+1+1+1]? = some (Rc .busy none) ∧
  ∃ a' q,(Except.ok (a,r):Except (Int × Int) (List Tree × List Tl)) = .ok (a',q)∧RstJ w B rb tx (Rc .ready none) a' (W9.putObj (B+1+1+1) (Rc .ready none))∧St (W9.putObj (B+1+1+1) (Rc .ready none)) rb last q :=
 ⟨hj.rc,a,r,rfl,hj.turned _,hs.putO (by have:=hj.lo;omega) _⟩
def midN (A:(Nat→Value)→Act) (R:(Nat→Value)→World→Prop):Exit→Act→World→Prop
 | .normal,a,w=>a=A (fun i=>a.tmps.getD i undef)∧R (fun i=>a.tmps.getD i undef) w
 | _,_,_=>False
theorem wp_midN {P:Program} {c:Code} {Q:Exit→Act→World→Prop} {a:Act} {w:World} (A:(Nat→Value)→Act) (R:(Nat→Value)→World→Prop)
  (h:c.wp P (midN A R) a w) (hq : ∀ f w',R f w'→Q .normal (A f) w'):c.wp P Q a w :=
 wp_mono h (fun e a' w' hh=>by
  cases e with
  | normal =>
   obtain ⟨he,hr⟩:=hh
   rw [he]
   exact hq _ w' hr
  | _=>exact hh.elim)
theorem midN_normal {A:(Nat→Value)→Act} {R:(Nat→Value)→World→Prop} {a:Act} {w:World} (h1:a=A (fun i=>a.tmps.getD i undef)) (h2:R (fun i=>a.tmps.getD i undef) w):midN A R .normal a w:=⟨h1,h2⟩
def nmRec (last:Nat) (g:Nat) (acc:List Tree) (l:List Tl):Rd (List Tree):=(fns last g).names acc l
def nmOne (last:Nat) (_:Nat) (acc:List Tree) (l:List Tl):Rd (List Tree):=(nameF last l).bind fun s r => .ok (acc++[nd 1 s [] (hereF last l).line]) r
theorem nm_rec (last g:Nat) (acc:List Tree) (l:List Tl):nmRec last (g+1) acc l=(nmOne last g acc l).bind (contF last [41] (nmRec last g)):=by
 show namesS last (fns last g) acc l=_
 unfold namesS nmOne
 match nameF last l with
 | none=>rfl
 | some (.error e)=>rfl
 | some (.ok (x,r))=>rfl
theorem name_rest {last:Nat} {l r:List Tl} {s:List UInt8} (h:nameF last l=some (.ok (s,r))):r=l.tail:=by
 unfold nameF at h
 split at h
 ·injection h with h
  injection h with h
  injection h with _ h
  exact h.symm
 ·exact absurd h (by simp [stopF,failF])
theorem nm_len (last g:Nat) (acc:List Tree) (l:List Tl) (a:List Tree) (r:List Tl) (h:nmOne last g acc l=some (.ok (a,r))):r.length≤l.length∧a.length=acc.length+1:=by
 unfold nmOne at h
 obtain ⟨x,r1,h1,h2⟩:=bind_some h |>.resolve_left (by rintro ⟨e,_,h⟩;cases h)
 have:=some_ok h2
 injection this with this
 injection this with h3 h4
 subst h3 h4
 have:=name_rest h1
 subst this
 exact ⟨by simp,by simp⟩
theorem cont_count {last:Nat} {tx:List UInt8} {rec:List Tree→List Tl→Rd (List Tree)} {a b:List Tree} {r q:List Tl} (hr : ∀ acc l b q,rec acc l=some (.ok (b,q))→b.length+q.length≤acc.length+l.length) (h:contF last tx rec a r=some (.ok (b,q))):b.length+q.length≤a.length+r.length:=by
 unfold contF at h
 split at h
 ·have:=hr _ _ _ _ h
  rw [List.length_tail] at this
  omega
 ·obtain ⟨x,r1,h1,h2⟩:=bind_some h |>.resolve_left (by rintro ⟨e,_,h⟩;cases h)
  have:=some_ok h2
  injection this with this
  injection this with h3 h4
  subst h3 h4
  unfold mustF at h1
  split at h1
  ·injection h1 with h1
   injection h1 with h1
   injection h1 with _ h1
   subst h1
   rw [List.length_tail]
   omega
  ·exact absurd h1 (by simp [stopF,failF])
theorem nm_count (last:Nat) : ∀ (g:Nat) (acc:List Tree) (l:List Tl) (b:List Tree) (q:List Tl),nmRec last g acc l=some (.ok (b,q))→b.length+q.length≤acc.length+l.length
 | 0,_,_,_,_,h=>by cases h
 | g+1,acc,l,b,q,h=>by
  rw [nm_rec] at h
  obtain ⟨x,r1,h1,h2⟩:=bind_some h |>.resolve_left (by rintro ⟨e,_,h⟩;cases h)
  have h3:=cont_count (nm_count last g) h2
  unfold nmOne at h1
  obtain ⟨s,r2,h4,h5⟩:=bind_some h1 |>.resolve_left (by rintro ⟨e,_,h⟩;cases h)
  have:=some_ok h5
  injection this with this
  injection this with h6 h7
  subst h6 h7
  have hr:=name_rest h4
  have hne:l≠[]:=by
   rintro rfl
   unfold nameF at h4
   exact absurd h4 (by simp [hereF,Tk.zero,stopF,failF])
  have:0<l.length:=List.length_pos_iff.2 hne
  rw [hr,List.length_tail] at h3
  simp at h3
  omega
theorem le_namesF {F G:Fns} (h:LeF F G) (l:List Tl):Le (namesF F l) (namesF G l):=by
 unfold namesF
 split
 ·exact Le.refl _
 ·exact h.names _ _
end
end Go.Proofs.YtjjdmiaonkailaaGreatDoor
