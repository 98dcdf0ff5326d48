/- Walks and plain laws, packed: RdA, SlT, Part. -/
import Derived.Test.YtjjdmiaonkailaaGreatDoorK02
import Derived.Test.YtjjdmiaonkailaaGreatDoorK14
import Derived.Test.YtjjdmiaonkailaaGreatDoorK07
import Derived.Test.YtjjdmiaonkailaaGreatDoorK05
import Derived.Test.YtjjdmiaonkailaaGreatDoorK10
import Derived.Test.YtjjdmiaonkailaaGreatDoorK04
import Derived.Handy
import Derived.Laws.Rows
import Derived.Test.YtjjdmiaonkailaaGreatDoorK12
namespace Go.Proofs.YtjjdmiaonkailaaGreatDoor
section
open Go.RowKit Go.Sort
def tokC (t:Tl):List Value:=[.int .i64 t.t.kind,.string ⟨t.t.s.toArray⟩,.int .i64 t.t.n,.int .i64 t.line,.bool t.nl]
def tokV (t:Tl):Value := .agg #[.int .i64 t.t.kind,.string ⟨t.t.s.toArray⟩,.int .i64 t.t.n,.int .i64 t.line,.bool t.nl]
structure TokOk (t:Tl):Prop where
 s:t.t.s.length≤65536
 n0:0≤t.t.n
 n1:t.t.n≤999999999999999
 line:t.line≤1000000
 k0:1≤t.t.kind
 k1:t.t.kind≤5
def TokSl (B:Nat) (W:World) (l:List Tl) (v:Value):Prop :=
 l.length≤100000 ∧ ∃ A c,v = .slice A l.length c ∧ ∀ k t,l[k]? = some t → ∃ g o,A=some ⟨g,o,none⟩∧(g<B∧l.length≤c)∧TokOk t ∧ ∀ j,j<5→W.cell? ⟨g,o+(k*5+j),none⟩=(tokC t)[j]?
theorem TokSl.keep {B:Nat} {W W':World} {l:List Tl} {v:Value} (h:TokSl B W l v) (hb : ∀ k,k<B→W'.heap[k]? = W.heap[k]?):TokSl B W' l v:=by
 obtain ⟨h0,A,c,rfl,h⟩:=h
 refine ⟨h0,A,c,rfl,fun k t hk => ?_⟩
 obtain ⟨g,o,rfl,h1,h2,h3⟩:=h k t hk
 exact ⟨g,o,rfl,h1,h2,fun j hj=>(World.cell?_of_block (hb g h1.1)).trans (h3 j hj)⟩
theorem TokSl.nil {B:Nat} {W:World} (A:Option Addr) (c:Nat):TokSl B W [] (.slice A 0 c):=⟨Nat.zero_le _,A,c,rfl,fun k t hk=>by simp at hk⟩
theorem TokSl.ok {B:Nat} {W:World} {l:List Tl} {v:Value} (h:TokSl B W l v) {t:Tl} (ht:t ∈ l):TokOk t:=by
 obtain ⟨_,A,c,_,h⟩:=h
 obtain ⟨k,hk⟩:=List.getElem?_of_mem ht
 obtain ⟨_,_,_,_,h2,_⟩:=h k t hk
 exact h2
theorem TokSl.tail {B:Nat} {W:World} {t:Tl} {l:List Tl} {g o n c:Nat} (h:TokSl B W (t::l) (.slice (some ⟨g,o,none⟩) n c)) (c':Nat) (hc:l.length≤c'):TokSl B W l (.slice (some ⟨g,o+5,none⟩) l.length c'):=by
 obtain ⟨h0,A,c2,hv,h⟩:=h
 injection hv with h1 _ h3
 subst h1
 refine ⟨by simp at h0;omega,_,c',rfl,fun k u hk => ?_⟩
 obtain ⟨g2,o2,h4,h5,h6,h7⟩:=h (k+1) u (by simpa using hk)
 injection h4 with h4
 injection h4 with h4 h8 _
 subst h4;subst h8
 exact ⟨g,o+5,rfl,⟨h5.1,hc⟩,h6,fun j hj=>by rw [← h7 j hj];congr 2;omega⟩
theorem TokSl.first {B:Nat} {W:World} {t:Tl} {l:List Tl} {v:Value} (h:TokSl B W (t::l) v) : ∃ g o c,v = .slice (some ⟨g,o,none⟩) (l.length+1) c∧(g<B∧l.length+1≤c)∧TokOk t ∧
  W.cell? ⟨g,o,none⟩=some (.int .i64 t.t.kind)∧W.cell? ⟨g,o+1,none⟩=some (.string ⟨t.t.s.toArray⟩)∧W.cell? ⟨g,o+2,none⟩=some (.int .i64 t.t.n)∧W.cell? ⟨g,o+3,none⟩=some (.int .i64 t.line)∧W.cell? ⟨g,o+4,none⟩=some (.bool t.nl):=by
 obtain ⟨h0,A,c,rfl,h⟩:=h
 obtain ⟨g,o,rfl,h1,h2,h3⟩:=h 0 t rfl
 refine ⟨g,o,c,rfl,h1,h2,?_,?_,?_,?_,?_⟩
 ·simpa [tokC] using h3 0 (by omega)
 ·simpa [tokC] using h3 1 (by omega)
 ·simpa [tokC] using h3 2 (by omega)
 ·simpa [tokC] using h3 3 (by omega)
 ·simpa [tokC] using h3 4 (by omega)
def LaidU (rb:Nat) (w:World):Prop := ∀ w',Below rb w w'→Laid w'
structure RdAt (w:World) (rb last:Nat) (l:List Tl) (A:Option Addr) (c:Nat):Prop where
 blk:Blk w rb 67 #[.slice A l.length c,.int .i64 last]
 toks:TokSl rb w l (.slice A l.length c)
 laid:LaidU rb w
def St (w:World) (rb last:Nat) (l:List Tl):Prop := ∃ A c,RdAt w rb last l A c
abbrev TurnR (rb:Nat) (w w':World):Prop:=Turn (fun k=>k=rb) w w'
theorem RdAt.lt {w:World} {rb last:Nat} {l:List Tl} {A:Option Addr} {c:Nat} (h:RdAt w rb last l A c):rb<w.heap.size:=h.blk.lt
theorem RdAt.below {w w':World} {rb last:Nat} {l:List Tl} {A:Option Addr} {c:Nat} (h:RdAt w rb last l A c) (hb:Below w.heap.size w w'):RdAt w' rb last l A c :=
 ⟨h.blk.keep (hb.block _ h.lt),h.toks.keep fun k hk=>hb.block k (Nat.lt_trans hk h.lt),fun w2 h2=>h.laid w2 ((hb.mono (Nat.le_of_lt h.lt)).trans h2)⟩
theorem St.below {w w':World} {rb last:Nat} {l:List Tl} (h:St w rb last l) (hb:Below w.heap.size w w'):St w' rb last l:=by
 obtain ⟨A,c,h⟩:=h
 exact ⟨A,c,h.below hb⟩
theorem St.lt {w:World} {rb last:Nat} {l:List Tl} (h:St w rb last l):rb<w.heap.size:=by
 obtain ⟨A,c,h⟩:=h
 exact h.lt
theorem St.laid {w:World} {rb last:Nat} {l:List Tl} (h:St w rb last l):Laid w:=by
 obtain ⟨A,c,h⟩:=h
 exact h.laid w (Below.refl _ _)
theorem St.ok {w:World} {rb last:Nat} {l:List Tl} (h:St w rb last l) {t:Tl} (ht:t ∈ l):TokOk t:=by
 obtain ⟨A,c,h⟩:=h
 exact h.toks.ok ht
theorem St.len {w:World} {rb last:Nat} {l:List Tl} (h:St w rb last l):l.length≤100000:=by
 obtain ⟨A,c,h⟩:=h
 exact h.toks.1
theorem turn_below {rb:Nat} {w w':World} (h:Below w.heap.size w w'):TurnR rb w w':=(Turn.of_below h).mono (fun _ _ x=>x.elim)
theorem TurnR.trans {rb:Nat} {a b c:World} (h:TurnR rb a b) (k:TurnR rb b c):TurnR rb a c:=Turn.trans h k (fun _ _ e=>e)
theorem TurnR.low {rb:Nat} {a b:World} (h:TurnR rb a b) (hl:rb≤a.heap.size):Below rb a b:=h.below hl (fun k e=>by omega)
theorem St.set {w:World} {rb last:Nat} {l:List Tl} (h:St w rb last l) {p:Addr} (hp:rb<p.block) (v:Value):St (w.setCell p v) rb last l:=by
 obtain ⟨A,c,h⟩:=h
 have hk : ∀ k,k<p.block→(w.setCell p v).heap[k]? = w.heap[k]? := fun k hk=>Below.heap_setCell _ _ _ _ (by omega)
 have hb:Below rb w (w.setCell p v):=⟨rfl,rfl,rfl,by simp [World.setCell],fun k hk'=>hk k (by omega)⟩
 exact ⟨A,c,h.blk.keep (hk rb hp),h.toks.keep fun k hk'=>hk k (by omega),fun w9 h9=>h.laid w9 (hb.trans h9)⟩
theorem TurnR.keepU {rb:Nat} {a b:World} (h:TurnR rb a b) : ∀ k,rb+1≤k→k<a.heap.size→b.heap[k]? = a.heap[k]? := fun k hk hs=>h.block k hs (by omega)
set_option maxRecDepth 100000 in
set_option maxHeartbeats 1000000 in
theorem here_calls (w:World) (rb last:Nat) (l:List Tl) (h:St w rb last l) :
  Calls Tryz.prog 34 #[.pointer (some ⟨rb,0,none⟩)] w fun e w'=>e = .returned (tokV (hereF last l))∧Below w.heap.size w w':=by
 obtain ⟨A,c,h⟩:=h
 have hlt:=h.lt
 have c0:=h.blk.cell 0
 have c1:=h.blk.cell 1
 simp only [List.getElem?_toArray,List.getElem?_cons_zero,List.getElem?_cons_succ] at c0 c1
 cases l with
 | nil =>
  clear h
  go_enter Tryz.func34,Tryz.ntmps34
  go_wp2
  go_returns
  exact ⟨rfl,(Below.refl _ _).alloc (Nat.le_refl _) _⟩
 | cons t l =>
  obtain ⟨g,o,c2,hv,hgb,hok,a0,a1,a2,a3,a4⟩:=h.toks.first
  injection hv with hv1 hv2 hv3
  subst hv1
  simp only [List.length_cons] at c0
  have z1:¬ l.length+1=0:=by omega
  have z2:0<l.length+1:=by omega
  have z3:(0:Int)<(l.length:Int)+1:=by omega
  have hgl:g<w.heap.size:=Nat.lt_trans hgb.1 hlt
  clear h hok hv2 hv3
  go_enter Tryz.func34,Tryz.ntmps34
  go_wp2
  go_returns
  exact ⟨rfl,(Below.refl _ _).alloc (Nat.le_refl _) _⟩
def sets5 (w:World) (g:Nat) (v0 v1 v2 v3 v4:Value):World:=((((w.setCell ⟨g,0,none⟩ v0).setCell ⟨g,1,none⟩ v1).setCell ⟨g,2,none⟩ v2).setCell ⟨g,3,none⟩ v3).setCell ⟨g,4,none⟩ v4
theorem Blk.set5 {w:World} {g:Nat} {t:TypeId} {u0 u1 u2 u3 u4:Value} (h:Blk w g t #[u0,u1,u2,u3,u4]) (v0 v1 v2 v3 v4:Value):Blk (sets5 w g v0 v1 v2 v3 v4) g t #[v0,v1,v2,v3,v4]:=by
 have:=((((h.set_ 0 v0).set_ 1 v1).set_ 2 v2).set_ 3 v3).set_ 4 v4
 unfold sets5
 simpa using this
theorem size_tok:(Tryz.prog.info? 37).map (·.size)=some 5:=by kernel_rfl
theorem size_node:(Tryz.prog.info? 29).map (·.size)=some 5:=by kernel_rfl
theorem ret_tok {fn:Func} {p:Tmp} {R:Ending→World→Prop} {a:Act} {w:World} {g:Nat} {t:TypeId} {v0 v1 v2 v3 v4:Value} (hk:Blk w g t #[v0,v1,v2,v3,v4]) (h:fn.results=#[.cell p 37]) (hd:a.defers=[]) (hp:a.tmps.getD p undef = .pointer (some ⟨g,0,none⟩))
  (hR:R (.returned (.agg #[v0,v1,v2,v3,v4])) w):bodyPost Tryz.prog fn R .ret a w :=
 bodyPost_ret (results_cell_row h _ _ g t _ (0,0) _ hp hk Tryz.underlying37 rfl size_tok) hd hR
theorem ret_node {fn:Func} {p:Tmp} {R:Ending→World→Prop} {a:Act} {w:World} {g:Nat} {t:TypeId} {v0 v1 v2 v3 v4:Value} (hk:Blk w g t #[v0,v1,v2,v3,v4]) (h:fn.results=#[.cell p 29]) (hd:a.defers=[]) (hp:a.tmps.getD p undef = .pointer (some ⟨g,0,none⟩))
  (hR:R (.returned (.agg #[v0,v1,v2,v3,v4])) w):bodyPost Tryz.prog fn R .ret a w :=
 bodyPost_ret (results_cell_row h _ _ g t _ (0,0) _ hp hk Tryz.underlying29 rfl size_node) hd hR
theorem St.set5 {w:World} {rb last:Nat} {l:List Tl} (h:St w rb last l) {g:Nat} (hg:rb<g) (v0 v1 v2 v3 v4:Value):St (sets5 w g v0 v1 v2 v3 v4) rb last l:=((((h.set hg _).set hg _).set hg _).set hg _).set hg _
theorem Turn.set5 {F:Nat→Prop} {a w:World} (h:Turn F a w) {g:Nat} (hg:a.heap.size≤g) (v0 v1 v2 v3 v4:Value):Turn F a (sets5 w g v0 v1 v2 v3 v4):=by
 have hp : ∀ j:Nat,(⟨g,j,none⟩:Addr).block<a.heap.size→F (⟨g,j,none⟩:Addr).block:=fun j h=>absurd h (by simp;omega)
 exact ((((h.setCell (hp 0) _).setCell (hp 1) _).setCell (hp 2) _).setCell (hp 3) _).setCell (hp 4) _
theorem St.alloc {w:World} {rb last:Nat} {l:List Tl} (h:St w rb last l) (o:Obj):St (w.alloc o) rb last l:=h.below ((Below.refl _ _).alloc (Nat.le_refl _) o)
set_option maxRecDepth 100000 in
set_option maxHeartbeats 1000000 in
theorem skip_calls (w:World) (rb last:Nat) (l:List Tl) (h:St w rb last l) :
  Calls Tryz.prog 83 #[.pointer (some ⟨rb,0,none⟩)] w fun e w'=>e = .returned (tokV (hereF last l))∧St w' rb last l.tail∧TurnR rb w w':=by
 have HS:=Lib.hid h
 have hlt:=h.lt
 clear h
 go_enter Tryz.func83,Tryz.ntmps83
 go_wp2_with fail
 refine (here_calls _ rb last l (HS.out.alloc _)).mono ?_
 rintro e w2 ⟨rfl,hb2⟩
 unfold tokV
 have hblk:Blk w2 w.heap.size 37 #[.int .i64 0,.string ⟨#[]⟩,.int .i64 0,.int .i64 0,.bool false]:=(Blk.new w _ _).keep (hb2.block _ (by simp))
 have HB2:=Lib.hid ((((Below.refl _ _).alloc (Nat.le_refl _) _).trans (hb2.mono (by simp)):Below w.heap.size w w2))
 have hsz:=HB2.out.size
 clear hb2
 go_wp2
 have hA:=(HS.out.below HB2.out).alloc (.cells #[.int .i64 (hereF last l).t.kind,.string ⟨(hereF last l).t.s.toArray⟩,.int .i64 (hereF last l).t.n,.int .i64 (hereF last l).line,.bool (hereF last l).nl] 37)
 have hk1:=hblk.alloc (.cells #[.int .i64 (hereF last l).t.kind,.string ⟨(hereF last l).t.s.toArray⟩,.int .i64 (hereF last l).t.n,.int .i64 (hereF last l).line,.bool (hereF last l).nl] 37)
 have hk2:=Blk.new w2 37 #[.int .i64 (hereF last l).t.kind,.string ⟨(hereF last l).t.s.toArray⟩,.int .i64 (hereF last l).t.n,.int .i64 (hereF last l).line,.bool (hereF last l).nl]
 have HB3:=Lib.hid (HB2.out.alloc HB2.out.size (.cells #[.int .i64 (hereF last l).t.kind,.string ⟨(hereF last l).t.s.toArray⟩,.int .i64 (hereF last l).t.n,.int .i64 (hereF last l).line,.bool (hereF last l).nl] 37))
 have hne:w2.heap.size≠w.heap.size:=by have:=hblk.lt;omega
 have hrb2:rb<w2.heap.size:=by omega
 generalize w2.alloc (.cells #[.int .i64 (hereF last l).t.kind,.string ⟨(hereF last l).t.s.toArray⟩,.int .i64 (hereF last l).t.n,.int .i64 (hereF last l).line,.bool (hereF last l).nl] 37)=w3 at hA hk1 hk2 HB3 ⊢
 obtain ⟨A,c,hr⟩:=hA
 have c0:=hr.blk.cell 0
 simp only [List.getElem?_toArray,List.getElem?_cons_zero] at c0
 have f0:=hr.blk.frozen 0
 have hlt3:rb<w3.heap.size:=hr.lt
 have hrt:w.heap.size≠rb:=by omega
 have fin : ∀ v,(∃ A' c',v = .slice A' l.tail.length c'∧TokSl rb (w3.setCell ⟨rb,0,none⟩ v).drew l.tail v)→True:=fun _ _=>trivial
 have rest : ∀ (A':Option Addr) (c':Nat),TokSl rb (w3.setCell ⟨rb,0,none⟩ (.slice A' l.tail.length c')).drew l.tail (.slice A' l.tail.length c') →
   Blk (w3.setCell ⟨rb,0,none⟩ (.slice A' l.tail.length c')).drew w.heap.size 37 #[.int .i64 0,.string ⟨#[]⟩,.int .i64 0,.int .i64 0,.bool false] ∧
   Blk (w3.setCell ⟨rb,0,none⟩ (.slice A' l.tail.length c')).drew w2.heap.size 37 #[.int .i64 (hereF last l).t.kind,.string ⟨(hereF last l).t.s.toArray⟩,.int .i64 (hereF last l).t.n,.int .i64 (hereF last l).line,.bool (hereF last l).nl] ∧
   St (w3.setCell ⟨rb,0,none⟩ (.slice A' l.tail.length c')).drew rb last l.tail∧TurnR rb w (w3.setCell ⟨rb,0,none⟩ (.slice A' l.tail.length c')).drew:=by
  intro A' c' ht
  have hT:TurnR rb w3 (w3.setCell ⟨rb,0,none⟩ (.slice A' l.tail.length c')).drew:=((Turn.refl (fun k=>k=rb) w3).setCell (p:=⟨rb,0,none⟩) (fun _=>rfl) _).drew
  have hT':TurnR rb w (w3.setCell ⟨rb,0,none⟩ (.slice A' l.tail.length c')).drew:=(turn_below HB3.out).trans hT
  refine ⟨hk1.turn hT hrt,hk2.turn hT (by omega),⟨A',c',?_,ht,fun w9 h9=>hr.laid w9 ((hT.low (Nat.le_of_lt hlt3)).trans h9)⟩,hT'⟩
  have hs:=hr.blk.set_ 0 (.slice A' l.tail.length c')
  have hs2:Blk (w3.setCell ⟨rb,0,none⟩ (.slice A' l.tail.length c')) rb 67 #[.slice A' l.tail.length c',.int .i64 last]:=by simpa using hs
  exact hs2
 clear fin
 cases l with
 | nil =>
  go_region
  have e0:(min (0:Int) 1).toNat=0:=by decide
  rw [e0]
  obtain ⟨k1,k2,s4,t4⟩:=rest (if c=0 then A else Option.map (fun x=>x.add (0*5)) A) (c-0) (TokSl.nil _ _)
  change Exit.then _ _ _ _ (w3.setCell ⟨rb,0,none⟩ (.slice (if c=0 then A else Option.map (fun x=>x.add (0*5)) A) ([]:List Tl).tail.length (c-0))).drew
  generalize (w3.setCell ⟨rb,0,none⟩ (.slice (if c=0 then A else Option.map (fun x=>x.add (0*5)) A) ([]:List Tl).tail.length (c-0))).drew=w4 at k1 k2 s4 t4 ⊢
  have S4:=Lib.hid s4
  have T4:=Lib.hid t4
  have K1:=Lib.hid k1
  have hlt1:=k1.lt
  obtain ⟨a0,a1,a2,a3,a4⟩:w4.cell? ⟨w2.heap.size,0,none⟩=some (.int .i64 (hereF last []).t.kind)∧w4.cell? ⟨w2.heap.size,1,none⟩=some (.string ⟨(hereF last []).t.s.toArray⟩)∧w4.cell? ⟨w2.heap.size,2,none⟩=some (.int .i64 (hereF last []).t.n)∧w4.cell? ⟨w2.heap.size,3,none⟩=some (.int .i64 (hereF last []).line)∧w4.cell? ⟨w2.heap.size,4,none⟩=some (.bool (hereF last []).nl):=⟨k2.cell 0,k2.cell 1,k2.cell 2,k2.cell 3,k2.cell 4⟩
  obtain ⟨b0,b1,b2,b3,b4⟩:w4.cell? ⟨w.heap.size,0,none⟩=some (.int .i64 0)∧w4.cell? ⟨w.heap.size,1,none⟩=some (.string ⟨#[]⟩)∧w4.cell? ⟨w.heap.size,2,none⟩=some (.int .i64 0)∧w4.cell? ⟨w.heap.size,3,none⟩=some (.int .i64 0)∧w4.cell? ⟨w.heap.size,4,none⟩=some (.bool false):=⟨k1.cell 0,k1.cell 1,k1.cell 2,k1.cell 3,k1.cell 4⟩
  obtain ⟨g0,g1,g2,g3,g4⟩:w4.frozen? ⟨w.heap.size,0,none⟩=false∧w4.frozen? ⟨w.heap.size,1,none⟩=false∧w4.frozen? ⟨w.heap.size,2,none⟩=false∧w4.frozen? ⟨w.heap.size,3,none⟩=false∧w4.frozen? ⟨w.heap.size,4,none⟩=false:=⟨k1.frozen 0,k1.frozen 1,k1.frozen 2,k1.frozen 3,k1.frozen 4⟩
  clear k1 k2 s4 t4 c0 f0 hk1 hk2 hr rest
  go_wp2
  all_goals
   refine ret_tok (K1.out.set5 _ _ _ _ _) rfl rfl rfl ?_
   exact ⟨rfl,S4.out.set5 hlt _ _ _ _ _,T4.out.set5 (Nat.le_refl _) _ _ _ _ _⟩
 | cons t l =>
  obtain ⟨g,o,c2,hv,hgb,hok,-⟩:=hr.toks.first
  injection hv with hv1 hv2 hv3
  subst hv1
  subst hv3
  have hm1:min ((l.length:Int)+1) 1=1:=by omega
  have z1:(1:Int)≤(c:Int):=by omega
  have z2:1≤c:=by omega
  have hnx:=TokSl.tail (hr.toks) (c-1) (by omega)
  clear hv2
  simp only [List.length_cons] at c0
  go_region
  have ht:TokSl rb (w3.setCell ⟨rb,0,none⟩ (.slice (if c=1 then some ⟨g,o,none⟩ else some ⟨g,o+5,none⟩) l.length (c-1))).drew l (.slice (if c=1 then some ⟨g,o,none⟩ else some ⟨g,o+5,none⟩) l.length (c-1)):=by
   by_cases h1:c=1
   ·rw [if_pos h1]
    have h0:l=[]:=List.eq_nil_of_length_eq_zero (by omega)
    subst h0
    exact TokSl.nil _ _
   ·rw [if_neg h1]
    exact hnx.keep fun k hk=>Below.heap_setCell _ _ _ _ (by simp;omega)
  obtain ⟨k1,k2,s4,t4⟩:=rest (if c=1 then some ⟨g,o,none⟩ else some ⟨g,o+5,none⟩) (c-1) ht
  clear ht hnx hok hgb hm1
  change Exit.then _ _ _ _ (w3.setCell ⟨rb,0,none⟩ (.slice (if c=1 then some ⟨g,o,none⟩ else some ⟨g,o+5,none⟩) (t::l).tail.length (c-1))).drew
  generalize (w3.setCell ⟨rb,0,none⟩ (.slice (if c=1 then some ⟨g,o,none⟩ else some ⟨g,o+5,none⟩) (t::l).tail.length (c-1))).drew=w4 at k1 k2 s4 t4 ⊢
  have S4:=Lib.hid s4
  have T4:=Lib.hid t4
  have K1:=Lib.hid k1
  have hlt1:=k1.lt
  obtain ⟨a0,a1,a2,a3,a4⟩:w4.cell? ⟨w2.heap.size,0,none⟩=some (.int .i64 (hereF last (t::l)).t.kind)∧w4.cell? ⟨w2.heap.size,1,none⟩=some (.string ⟨(hereF last (t::l)).t.s.toArray⟩)∧w4.cell? ⟨w2.heap.size,2,none⟩=some (.int .i64 (hereF last (t::l)).t.n)∧w4.cell? ⟨w2.heap.size,3,none⟩=some (.int .i64 (hereF last (t::l)).line)∧w4.cell? ⟨w2.heap.size,4,none⟩=some (.bool (hereF last (t::l)).nl):=⟨k2.cell 0,k2.cell 1,k2.cell 2,k2.cell 3,k2.cell 4⟩
  obtain ⟨b0,b1,b2,b3,b4⟩:w4.cell? ⟨w.heap.size,0,none⟩=some (.int .i64 0)∧w4.cell? ⟨w.heap.size,1,none⟩=some (.string ⟨#[]⟩)∧w4.cell? ⟨w.heap.size,2,none⟩=some (.int .i64 0)∧w4.cell? ⟨w.heap.size,3,none⟩=some (.int .i64 0)∧w4.cell? ⟨w.heap.size,4,none⟩=some (.bool false):=⟨k1.cell 0,k1.cell 1,k1.cell 2,k1.cell 3,k1.cell 4⟩
  obtain ⟨g0,g1,g2,g3,g4⟩:w4.frozen? ⟨w.heap.size,0,none⟩=false∧w4.frozen? ⟨w.heap.size,1,none⟩=false∧w4.frozen? ⟨w.heap.size,2,none⟩=false∧w4.frozen? ⟨w.heap.size,3,none⟩=false∧w4.frozen? ⟨w.heap.size,4,none⟩=false:=⟨k1.frozen 0,k1.frozen 1,k1.frozen 2,k1.frozen 3,k1.frozen 4⟩
  clear k1 k2 s4 t4 c0 f0 hk1 hk2 hr rest
  go_wp2
  all_goals
   refine ret_tok (K1.out.set5 _ _ _ _ _) rfl rfl rfl ?_
   exact ⟨rfl,S4.out.set5 hlt _ _ _ _ _,T4.out.set5 (Nat.le_refl _) _ _ _ _ _⟩
end
section
open Go.RowKit Go.Sort
structure TkOk (t:Tk):Prop where
 s:t.s.length≤65536
 n0:0≤t.n
 n1:t.n≤999999999999999
 k0:1≤t.kind
 k1:t.kind≤5
theorem quotedF_len {q:UInt8} : ∀ {f:Nat} {l a:List UInt8} {k:Nat},quotedF q f l=some (a,k)→a.length≤f
 | 0,l,a,k,h=>by simp [quotedF] at h
 | f+1,[],a,k,h=>by simp [quotedF] at h
 | f+1,c::r,a,k,h=>by
  simp only [quotedF] at h
  split at h
  ·injection h with h
   injection h with h2 h3
   rw [← h2]
   simp
  ·split at h
   ·split at h
    ·cases h
    ·rename_i x m _
     simp only [Option.map_eq_some_iff] at h
     obtain ⟨p,h1,h2⟩:=h
     injection h2 with h3 h4
     rw [← h3]
     have:=quotedF_len (a:=p.1) (k:=p.2) h1
     simp
     omega
   ·split at h
    ·cases h
    ·simp only [Option.map_eq_some_iff] at h
     obtain ⟨p,h1,h2⟩:=h
     injection h2 with h3 h4
     rw [← h3]
     have:=quotedF_len (a:=p.1) (k:=p.2) h1
     simp
     omega
theorem num_ok {l:List UInt8} {k:Nat} (h:(l.takeWhile digitB8).length=k) (h15:k≤15):(numV (l.take k):Int)≤999999999999999:=by
 have h1:(l.take k).all digitB8=true:=by rw [← h];exact take_tw_all _ _
 have h2:=numV_lt h1 (by rw [List.length_take];omega)
 omega
theorem tokenF_ok {s:List UInt8} (hs:s.length≤65536) (h:(tokenF s).2.2=0):TkOk (tokenF s).1:=by
 cases s with
 | nil=>simp [tokenF] at h
 | cons c r =>
  cases hL:letterB c with
  | true =>
   rw [tokF_letter hL]
   refine ⟨?_,?_,?_,?_,?_⟩ <;> simp only
   ·have:=List.length_take_le' (namesB (c::r)) (c::r)
    omega
   ·omega
   ·omega
   ·split <;> omega
   ·split <;> omega
  | false =>
   cases hD:digitB8 c with
   | true =>
    rw [tokF_digit hL hD] at h ⊢
    rw [numberF_at rfl] at h ⊢
    split at h
    ·simp at h
    ·rename_i hd
     split at h
     ·simp at h
     ·rename_i hc
      rw [if_neg hd,if_neg hc]
      exact ⟨by simp,by simp,num_ok rfl (by omega),by simp,by simp⟩
   | false =>
    by_cases hq:c=34∨c=39
    ·rw [tokF_quote hL hD hq] at h ⊢
     cases hqq:quotedF c r.length r with
     | none=>rw [hqq] at h;simp at h
     | some p =>
      have:=quotedF_len (a:=p.1) (k:=p.2) hqq
      simp only [List.length_cons] at hs
      exact ⟨by simp only;omega,by simp,by simp,by simp,by simp⟩
    ·rw [tokF_sign hL hD hq] at h ⊢
     split at h
     ·rename_i hb
      rw [if_pos hb]
      split at h
      ·rename_i hi
       rw [if_pos hi]
       exact ⟨by simp,by simp,by simp,by simp,by simp⟩
      ·simp at h
     ·rename_i hb
      rw [if_neg hb]
      refine ⟨?_,by simp,by simp,by simp,by simp⟩
      have:=List.length_take_le' (beginsF (c::r) signs5) (c::r)
      simp only
      omega
theorem blanksF_len : ∀ {f:Nat} {x:Sc},(blanksF f x).2.s.length≤x.s.length
 | 0,x=>Nat.le_refl _
 | f+1,x=>by
  simp only [blanksF]
  split
  ·exact Nat.le_refl _
  ·exact Nat.le_refl _
  ·refine Nat.le_trans blanksF_len ?_
   simp [passF]
theorem lexGo_ok : ∀ (f:Nat) (x:Sc) (m:Nat),x.s.length≤65536→x.line+x.s.length≤100000 → ∀ t ∈ (lexGo f x m).1,TokOk t
 | 0,x,m,_,_,t,ht=>by simp [lexGo] at ht
 | f+1,x,m,hx,hsum,t,ht=>by
  have hb:=blanksF_sum (f:=x.s.length) hsum
  have hbl:=blanksF_len (f:=x.s.length) (x:=x)
  simp only [lexGo] at ht
  split at ht
  ·simp at ht
  ·split at ht
   ·simp at ht
   ·split at ht
    ·simp at ht
    ·rename_i he
     split at ht
     ·simp at ht
     ·simp only [List.mem_cons] at ht
      rcases ht with rfl | ht
      ·have:=tokenF_ok (s:=(blanksF x.s.length x).2.s) (by omega) (by simpa using he)
       exact ⟨this.s,this.n0,this.n1,by simp only;omega,this.k0,this.k1⟩
      ·refine lexGo_ok f _ _ ?_ ?_ t ht
       ·simp only [passF,List.length_drop]
        omega
       ·have:=passF_sum (n:=(tokenF (blanksF x.s.length x).2.s).2.1) hb
        exact this
theorem lexF_ok (s:List UInt8) : ∀ t ∈ (lexF s).1,TokOk t:=by
 intro t ht
 unfold lexF at ht
 split at ht
 ·simp at ht
 ·rename_i hs
  have:=lexGo_ok (s.length+1) ⟨s,1,false⟩ 0 (by simp only;omega) (by simp only;omega)
  cases hg:lexGo (s.length+1) ⟨s,1,false⟩ 0 with
  | mk l o =>
   rw [hg] at ht this
   cases o with
   | none=>exact this t ht
   | some p=>simp at ht
theorem rtokF_tok {c:UInt8} {r:List UInt8} {t:Tk} {k:Nat} (hs:(c::r).length≤65536) (h:rtokF c r=some (t,k)):TkOk t:=by
 unfold rtokF at h
 split at h
 ·injection h with h
  injection h with h1 h2
  rw [← h1]
  refine ⟨?_,?_,?_,?_,?_⟩ <;> simp only
  ·have:=List.length_take_le' (namesB (c::r)) (c::r)
   omega
  ·omega
  ·omega
  ·split <;> omega
  ·split <;> omega
 ·split at h
  ·split at h
   ·rename_i hc
    injection h with h
    injection h with h1 h2
    rw [← h1]
    exact ⟨by simp,by simp,num_ok rfl hc.2.1,by simp,by simp⟩
   ·cases h
  ·split at h
   ·cases h
   ·split at h
    ·injection h with h
     injection h with h1 h2
     rw [← h1]
     exact ⟨by simp,by simp,by simp,by simp,by simp⟩
    ·cases h
theorem rlexB_ok : ∀ (f:Nat) (s:List UInt8) (line:Nat) (nl:Bool) (l:List Tl),s.length≤65536→line+s.length≤100000→rlexB f s line nl=some l → ∀ t ∈ l,TokOk t
 | 0,_,_,_,_,_,_,h=>by cases h
 | f+1,[],line,nl,l,_,_,h=>by
  rw [rlexB_nil h]
  simp
 | f+1,c::r,line,nl,l,hs,hsum,h=>by
  rw [rlexB] at h
  simp only [List.length_cons] at hs hsum
  split at h
  ·exact rlexB_ok f r _ _ l (by omega) (by split <;> omega) h
  ·split at h
   ·cases hr:rtokF c r with
    | none=>rw [hr] at h;cases h
    | some p =>
     obtain ⟨t,k⟩:=p
     rw [hr] at h
     simp only [Option.map_eq_some_iff] at h
     obtain ⟨l3,h1,h2⟩:=h
     have hk:=rtokF_tok (by simpa using hs) hr
     intro u hu
     rw [← h2,List.mem_cons] at hu
     rcases hu with rfl | hu
     ·exact ⟨hk.s,hk.n0,hk.n1,by simp only;omega,hk.k0,hk.k1⟩
     ·refine rlexB_ok f _ _ _ l3 ?_ ?_ h1 u hu
      ·rw [List.length_drop,List.length_cons];omega
      ·rw [List.length_drop,List.length_cons];omega
   ·cases h
theorem tlCells_len : ∀ p:List Tl,(tlCells p).length=p.length*5
 | []=>by simp [tlCells]
 | t::p=>by
  have:=tlCells_len p
  unfold tlCells at this ⊢
  simp only [List.flatMap_cons,List.length_append,this,List.length_cons,tlCells1,List.length_nil]
  omega
theorem tlCells_get : ∀ {p:List Tl} {k:Nat} {t:Tl} (j:Nat),p[k]? = some t→j<5→(tlCells p)[k*5+j]? = (tlCells1 t)[j]?
 | [],k,t,j,h,_=>by simp at h
 | x::p,0,t,j,h,hj=>by
  simp only [List.getElem?_cons_zero,Option.some.injEq] at h
  subst h
  simp only [tlCells,List.flatMap_cons,Nat.zero_mul,Nat.zero_add]
  rw [List.getElem?_append_left (by simpa [tlCells1] using hj)]
 | x::p,k+1,t,j,h,hj=>by
  have ih:=tlCells_get (p:=p) (k:=k) (t:=t) j (by simpa using h) hj
  unfold tlCells at ih ⊢
  rw [List.flatMap_cons,List.getElem?_append_right (by simp [tlCells1];omega)]
  rw [show (k+1)*5+j-(tlCells1 x).length=k*5+j by simp [tlCells1];omega]
  exact ih
theorem own_toks {W:World} {B n c:Nat} {A:Option Addr} {l:List Tl} (h:W.ownsRow B 37 5 (.slice A n c) n (tlCells l)) (hn:n=l.length) (hlen:l.length≤100000) (hok : ∀ t ∈ l,TokOk t):TokSl W.heap.size W l (.slice A n c):=by
 subst hn
 refine ⟨hlen,A,c,rfl,fun k t hk => ?_⟩
 have hlt:k<l.length:=(List.getElem?_eq_some_iff.1 hk).1
 obtain ⟨g,c2,hv,hg1,hg2⟩:=World.ownsRow.form h (by omega)
 injection hv with hA _ hc
 subst hA
 refine ⟨g,0,rfl,⟨hg2,?_⟩,hok t (List.mem_of_getElem? hk),fun j hj => ?_⟩
 ·rcases h.2 with ⟨_,h0⟩ | ⟨g3,cap3,_,hv3,_,_,hc3,_⟩
  ·omega
  ·injection hv3 with _ _ hc4
   omega
 ·rw [Nat.zero_add,World.ownsRow.cellAt h (k*5+j) (by omega),tlCells_get j hk hj]
  rfl
end
section
open Go.RowKit
def partF (k:Int) (len i:Nat):Nat :=
 if k=10∨k=41 then (if i+1=len then 91 else 93)
 else if k=11 then 94
 else if k=32 then 95
 else if k=17∧i=0 then 96
 else if k=38 then 91
 else if (k=33∨k=34∨k=35)∧0<i then 91
 else 92
theorem part1_calls (w:World) (op:Int):Calls Tryz.prog 91 #[.int .i64 op] w fun e w'=>e = .returned (.bool (op==32))∧w=w':=by
 go_enter Tryz.func91,Tryz.ntmps91
 go_wp2
 go_ret
 simp
theorem part3_calls (w:World) (op:Int):Calls Tryz.prog 93 #[.int .i64 op] w fun e w'=>e = .returned (.bool (op==1))∧w=w':=by
 go_enter Tryz.func93,Tryz.ntmps93
 go_wp2
 go_ret
 simp
theorem part4_calls (w:World) (op:Int):Calls Tryz.prog 94 #[.int .i64 op] w fun e w'=>e = .returned (.bool (op==12))∧w=w':=by
 go_enter Tryz.func94,Tryz.ntmps94
 go_wp2
 go_ret
 simp
theorem part5_calls (w:World) (op:Int):Calls Tryz.prog 95 #[.int .i64 op] w fun e w'=>e = .returned (.bool (stmtK op))∧w=w':=by
 cases h1:decide (30≤op)
 ·go_enter Tryz.func95,Tryz.ntmps95
  go_wp2
  go_ret
  simp [stmtK,h1]
 ·go_enter Tryz.func95,Tryz.ntmps95
  go_wp2
  go_ret
  simp [stmtK,h1]
theorem part6_calls (w:World) (op:Int):Calls Tryz.prog 96 #[.int .i64 op] w fun e w'=>e = .returned (.bool (op==1||op==13||op==14))∧w=w':=by
 cases h1:(op==1) <;> cases h2:(op==13)
 all_goals
  go_enter Tryz.func96,Tryz.ntmps96
  go_wp2
  go_ret
  simp
theorem exprK_calls (w:World) (op:Int):Calls Tryz.prog 29 #[.int .i64 op] w fun e w'=>e = .returned (.bool (exprK op))∧w=w':=by
 cases h1:decide (1≤op) <;> cases h2:decide (op≤23) <;> cases h3:(op==12)
 all_goals
  have h4:(op != 12) = !(op==12):=rfl
  rw [h3] at h4
  go_enter Tryz.func29,Tryz.ntmps29
  go_wp2
  go_ret
  simp [exprK,h1,h2,h3]
theorem part2_calls (w:World) (op:Int):Calls Tryz.prog 92 #[.int .i64 op] w fun e w'=>e = .returned (.bool (exprK op))∧w=w':=by
 go_enter Tryz.func92,Tryz.ntmps92
 go_wp2_with (go_at_call 29;refine (exprK_calls _ _).mono ?_;rintro e w' ⟨rfl,rfl⟩)
 go_ret
 exact ⟨rfl,rfl⟩
theorem partFn_calls (w:World) (k:Int) (len i:Nat) (op:Int):Calls Tryz.prog (partF k len i) #[.int .i64 op] w fun e w'=>e = .returned (.bool (partB k len i op))∧w=w':=by
 unfold partF partB
 by_cases h1:k=10∨k=41
 ·rw [if_pos h1,if_pos h1]
  by_cases h2:i+1=len
  ·rw [if_pos h2,if_pos h2];exact part1_calls w op
  ·rw [if_neg h2,if_neg h2];exact part3_calls w op
 rw [if_neg h1,if_neg h1]
 by_cases h3:k=11
 ·rw [if_pos h3,if_pos h3];exact part4_calls w op
 rw [if_neg h3,if_neg h3]
 by_cases h4:k=32
 ·rw [if_pos h4,if_pos h4];exact part5_calls w op
 rw [if_neg h4,if_neg h4]
 by_cases h5:k=17∧i=0
 ·rw [if_pos h5,if_pos h5];exact part6_calls w op
 rw [if_neg h5,if_neg h5]
 by_cases h6:k=38
 ·rw [if_pos h6,if_pos h6];exact part1_calls w op
 rw [if_neg h6,if_neg h6]
 by_cases h7:(k=33∨k=34∨k=35)∧0<i
 ·rw [if_pos h7,if_pos h7];exact part1_calls w op
 rw [if_neg h7,if_neg h7]
 exact part2_calls w op
set_option maxRecDepth 100000 in
set_option maxHeartbeats 4000000 in
theorem part_calls (w:World) (op:Int) (s:ByteArray) (n:Int) (A:Option Addr) (len c:Nat) (line:Int) (i:Nat) (hl:len≤maxLen) :
  Calls Tryz.prog 59 #[.agg #[.int .i64 op,.string s,.int .i64 n,.slice A len c,.int .i64 line],.int .i64 i] w fun e w'=>e = .returned (.func (.func (partF op len i)) #[] #[])∧Below w.heap.size w w':=by
 unfold maxLen at hl
 obtain ⟨w0,hw0⟩ : ∃ w0,w.alloc (.cells #[.int .i64 op,.string s,.int .i64 n,.slice A len c,.int .i64 line] 29)=w0:=⟨_,rfl⟩
 have bx:Blk5 w0 w.heap.size op s n (.slice A len c) line:=by rw [← hw0];exact blk5_new _ _ _ _ _ _
 have hb0:Below w.heap.size w w0:=by rw [← hw0];exact (Below.refl _ _).alloc (Nat.le_refl _) _
 have HB:=Lib.hid hb0
 obtain ⟨c0,c1,c2,c3,c4⟩:=bx
 clear hb0
 by_cases h10:op=10
 ·subst h10
  by_cases hi:i+1=len
  ·have hN:Hid (partF 10 len i=91):=Lib.hid (by simp [partF,hi])
   have hd:((i:Int)==(len:Int)-1)=true:=by simp;omega
   go_enter Tryz.func59,Tryz.ntmps59
   go_wp2
   go_ret
   exact ⟨by rw [hN.out];rfl,HB.out⟩
  ·have hN:Hid (partF 10 len i=93):=Lib.hid (by simp [partF,hi])
   have hd:((i:Int)==(len:Int)-1)=false:=by simp;omega
   go_enter Tryz.func59,Tryz.ntmps59
   go_wp2
   go_ret
   exact ⟨by rw [hN.out];rfl,HB.out⟩
 by_cases h41:op=41
 ·subst h41
  by_cases hi:i+1=len
  ·have hN:Hid (partF 41 len i=91):=Lib.hid (by simp [partF,hi])
   have hd:((i:Int)==(len:Int)-1)=true:=by simp;omega
   go_enter Tryz.func59,Tryz.ntmps59
   go_wp2
   go_ret
   exact ⟨by rw [hN.out];rfl,HB.out⟩
  ·have hN:Hid (partF 41 len i=93):=Lib.hid (by simp [partF,hi])
   have hd:((i:Int)==(len:Int)-1)=false:=by simp;omega
   go_enter Tryz.func59,Tryz.ntmps59
   go_wp2
   go_ret
   exact ⟨by rw [hN.out];rfl,HB.out⟩
 by_cases h11:op=11
 ·subst h11
  have hN:Hid (partF 11 len i=94):=Lib.hid (by simp [partF])
  go_enter Tryz.func59,Tryz.ntmps59
  go_wp2
  go_ret
  exact ⟨by rw [hN.out];rfl,HB.out⟩
 by_cases h32:op=32
 ·subst h32
  have hN:Hid (partF 32 len i=95):=Lib.hid (by simp [partF])
  go_enter Tryz.func59,Tryz.ntmps59
  go_wp2
  go_ret
  exact ⟨by rw [hN.out];rfl,HB.out⟩
 by_cases h38:op=38
 ·subst h38
  have hN:Hid (partF 38 len i=91):=Lib.hid (by simp [partF])
  go_enter Tryz.func59,Tryz.ntmps59
  go_wp2
  go_ret
  exact ⟨by rw [hN.out];rfl,HB.out⟩
 by_cases h17:op=17
 ·subst h17
  by_cases hi:i=0
  ·have hN:Hid (partF 17 len i=96):=Lib.hid (by simp [partF,hi])
   have hd:((i:Int)==0)=true:=by simp;omega
   go_enter Tryz.func59,Tryz.ntmps59
   go_wp2
   go_ret
   exact ⟨by rw [hN.out];rfl,HB.out⟩
  ·have hN:Hid (partF 17 len i=92):=Lib.hid (by simp [partF,hi])
   have hd:((i:Int)==0)=false:=by simp;omega
   go_enter Tryz.func59,Tryz.ntmps59
   go_wp2
   go_ret
   exact ⟨by rw [hN.out];rfl,HB.out⟩
 by_cases h33:op=33
 ·subst h33
  by_cases hi:0<i
  ·have hN:Hid (partF 33 len i=91):=Lib.hid (by simp [partF,hi])
   have hd:decide (0<(i:Int))=true:=by simp;omega
   go_enter Tryz.func59,Tryz.ntmps59
   go_wp2
   go_ret
   exact ⟨by rw [hN.out];rfl,HB.out⟩
  ·have hN:Hid (partF 33 len i=92):=Lib.hid (by simp [partF,hi])
   have hd:decide (0<(i:Int))=false:=by simp;omega
   go_enter Tryz.func59,Tryz.ntmps59
   go_wp2
   go_ret
   exact ⟨by rw [hN.out];rfl,HB.out⟩
 by_cases h34:op=34
 ·subst h34
  by_cases hi:0<i
  ·have hN:Hid (partF 34 len i=91):=Lib.hid (by simp [partF,hi])
   have hd:decide (0<(i:Int))=true:=by simp;omega
   go_enter Tryz.func59,Tryz.ntmps59
   go_wp2
   go_ret
   exact ⟨by rw [hN.out];rfl,HB.out⟩
  ·have hN:Hid (partF 34 len i=92):=Lib.hid (by simp [partF,hi])
   have hd:decide (0<(i:Int))=false:=by simp;omega
   go_enter Tryz.func59,Tryz.ntmps59
   go_wp2
   go_ret
   exact ⟨by rw [hN.out];rfl,HB.out⟩
 by_cases h35:op=35
 ·subst h35
  by_cases hi:0<i
  ·have hN:Hid (partF 35 len i=91):=Lib.hid (by simp [partF,hi])
   have hd:decide (0<(i:Int))=true:=by simp;omega
   go_enter Tryz.func59,Tryz.ntmps59
   go_wp2
   go_ret
   exact ⟨by rw [hN.out];rfl,HB.out⟩
  ·have hN:Hid (partF 35 len i=92):=Lib.hid (by simp [partF,hi])
   have hd:decide (0<(i:Int))=false:=by simp;omega
   go_enter Tryz.func59,Tryz.ntmps59
   go_wp2
   go_ret
   exact ⟨by rw [hN.out];rfl,HB.out⟩
 have hN:Hid (partF op len i=92):=Lib.hid (by simp [partF,h10,h41,h11,h32,h17,h38,h33,h34,h35])
 have q10:(op==10)=false:=by simpa using h10
 have q41:(op==41)=false:=by simpa using h41
 have q11:(op==11)=false:=by simpa using h11
 have q32:(op==32)=false:=by simpa using h32
 have q17:(op==17)=false:=by simpa using h17
 have q38:(op==38)=false:=by simpa using h38
 have q33:(op==33)=false:=by simpa using h33
 have q34:(op==34)=false:=by simpa using h34
 have q35:(op==35)=false:=by simpa using h35
 clear h10 h41 h11 h32 h17 h38 h33 h34 h35
 go_enter Tryz.func59,Tryz.ntmps59
 go_wp2
 go_ret
 exact ⟨by rw [hN.out];rfl,HB.out⟩
end
end Go.Proofs.YtjjdmiaonkailaaGreatDoor
