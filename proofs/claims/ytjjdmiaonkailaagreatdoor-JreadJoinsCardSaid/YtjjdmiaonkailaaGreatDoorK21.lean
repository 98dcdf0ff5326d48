/- Walks and plain laws, packed: RdP, RdQ, RangeP, RdR. -/
import Derived.Test.YtjjdmiaonkailaaGreatDoorK20
import Derived.Test.YtjjdmiaonkailaaGreatDoorK03
import Derived.Test.YtjjdmiaonkailaaGreatDoorK09
import Derived.Deep.RegionLaw
namespace Go.Proofs.YtjjdmiaonkailaaGreatDoor
section
open Go.RowKit Go.Sort
def zeroT:Tree := .node 0 ⟨#[]⟩ 0 [] 0
abbrev zeroL:List (Tree × Value):=[(zeroT,.slice none 0 0)]
theorem zero_news {w:World} {g:Nat} {fr:Nat × Nat} (h:w.heap[g]? = some (.cells #[.int .i64 0,.string ⟨#[]⟩,.int .i64 0,.slice none 0 0,.int .i64 0] 29 fr)) : ∀ j u,(flatN zeroL)[j]? = some u→w.cell? ((⟨g,0,none⟩:Addr).add j)=some u :=
 World.news_of_block (cs:=#[.int .i64 0,.string ⟨#[]⟩,.int .i64 0,.slice none 0 0,.int .i64 0]) h
theorem zero_ok {B:Nat→Prop} {W:World} : ∀ p,p ∈ zeroL→p.1.ok ∧ ∃ d,TrP B W d p.1.l p.2:=by
 intro p hp
 simp only [List.mem_singleton] at hp
 subst hp
 exact ⟨⟨by decide,by decide,by decide⟩,0,rfl,none,0,rfl⟩
section
variable {B:Nat} {w:World} {acc:List Tree} {t0:Tree} {g cap n:Nat}
theorem RowT.split (h:RowT B w (acc++[t0]) (.slice (some ⟨g,0,none⟩) n cap)) : ∃ (l1:List (Tree × Value)) (s0:Value),l1.map Prod.fst=acc∧n=acc.length+1∧w.ownsRow B 29 5 (.slice (some ⟨g,0,none⟩) n cap) n (flatN l1++nodeCells t0 s0)∧(∀ p,p ∈ l1→p.1.ok ∧ ∃ d,TrP (fun k=>B≤k∧g≠k) w d p.1.l p.2):=by
 obtain ⟨l,h1,h2,h3⟩:=h
 have hl:l.length=acc.length+1:=by
  have:=congrArg List.length h1
  simpa using this
 have hne:l≠[]:=by intro e;rw [e] at hl;simp at hl
 have hd:l=l.dropLast++[l.getLast hne]:=(List.dropLast_concat_getLast hne).symm
 have hm1:l.dropLast.map Prod.fst=acc:=by
  have:=congrArg List.dropLast h1
  simpa [List.map_dropLast] using this
 have ht:(l.getLast hne).1=t0:=by
  have e:(l.map Prod.fst).getLast? = some t0:=by rw [h1];simp
  rw [List.getLast?_map,List.getLast?_eq_some_getLast hne] at e
  simpa using e
 refine ⟨l.dropLast,(l.getLast hne).2,hm1,?_,?_,fun p hp => ?_⟩
 ·have h4:n=l.length:=by
   obtain ⟨A,c,e⟩:=own_slice h2
   injection e
  omega
 ·have h4:n=l.length:=by
   obtain ⟨A,c,e⟩:=own_slice h2
   injection e
  rw [h4]
  rw [h4] at h2
  have e:flatN l=flatN l.dropLast++nodeCells t0 (l.getLast hne).2:=by
   conv=>lhs;rw [hd]
   rw [flatN_snoc,ht]
  rwa [e] at h2
 ·obtain ⟨h5,d,h6⟩:=h3 p (List.dropLast_sublist l |>.subset hp)
  exact ⟨h5,d,h6.weaken fun k _ hk=>⟨hk.1,fun e=>hk.2 (by simp [Value.ownBlock,e])⟩⟩
theorem set_at (a b:List Value) (n j:Nat) (hn:a.length=n) (u:Value):(a++b).set (n+j) u=a++b.set j u:=by
 subst hn
 rw [List.set_append_right _ _ (by omega)]
 congr 1
 congr 1
 omega
def sets5at (w:World) (g o:Nat) (v0 v1 v2 v3 v4:Value):World:=((((w.setCell ⟨g,o,none⟩ v0).setCell ⟨g,o+1,none⟩ v1).setCell ⟨g,o+2,none⟩ v2).setCell ⟨g,o+3,none⟩ v3).setCell ⟨g,o+4,none⟩ v4
theorem RowT.last (h:RowT B w (acc++[zeroT]) (.slice (some ⟨g,0,none⟩) n cap)) {o:Nat} (ho:o=acc.length*5) : ∃ s0,(w.cell? ⟨g,o,none⟩=some (.int .i64 0)∧w.cell? ⟨g,o+1,none⟩=some (.string ⟨#[]⟩)∧w.cell? ⟨g,o+2,none⟩=some (.int .i64 0)∧w.cell? ⟨g,o+3,none⟩=some s0∧w.cell? ⟨g,o+4,none⟩=some (.int .i64 0)) ∧
  w.frozen? ⟨g,o,none⟩=false∧w.frozen? ⟨g,o+1,none⟩=false∧w.frozen? ⟨g,o+2,none⟩=false∧w.frozen? ⟨g,o+3,none⟩=false∧w.frozen? ⟨g,o+4,none⟩=false:=by
 obtain ⟨l1,s0,h1,hn,h2,-⟩:=h.split
 subst hn
 have hl:(flatN l1).length=o:=by rw [flatN_len,ho,← h1,List.length_map,Nat.mul_comm]
 have hc : ∀ j,j<5→w.cell? ⟨g,o+j,none⟩=(nodeCells zeroT s0)[j]? := fun j hj=>by
  rw [World.ownsRow.cellAt h2 (o+j) (by omega),List.getElem?_append_right (by omega),hl]
  congr 1
  omega
 refine ⟨s0,⟨?_,?_,?_,?_,?_⟩,?_,?_,?_,?_,?_⟩
 ·exact hc 0 (by omega)
 ·exact hc 1 (by omega)
 ·exact hc 2 (by omega)
 ·exact hc 3 (by omega)
 ·exact hc 4 (by omega)
 ·exact World.ownsRow.frozenAt h2 o
 ·exact World.ownsRow.frozenAt h2 (o+1)
 ·exact World.ownsRow.frozenAt h2 (o+2)
 ·exact World.ownsRow.frozenAt h2 (o+3)
 ·exact World.ownsRow.frozenAt h2 (o+4)
theorem RowT.put (h:RowT B w (acc++[t0]) (.slice (some ⟨g,0,none⟩) n cap)) {o:Nat} (ho:o=acc.length*5) {x:Tree} {A:Option Addr} {m c d:Nat} (hm:m=x.l.length) (hok:x.ok) (htr:TrP (fun k=>B≤k∧g≠k) w d x.l (.slice A x.l.length c)) :
  RowT B (sets5at w g o (.int .i64 x.op) (.string x.s) (.int .i64 x.n) (.slice A m c) (.int .i64 x.line)) (acc++[x]) (.slice (some ⟨g,0,none⟩) n cap):=by
 subst hm
 obtain ⟨l1,s0,h1,hn,h2,h3⟩:=h.split
 subst hn
 have hl:(flatN l1).length=o:=by rw [flatN_len,ho,← h1,List.length_map,Nat.mul_comm]
 have e0:nodeCells t0 s0=[.int .i64 t0.op,.string t0.s,.int .i64 t0.n,s0,.int .i64 t0.line]:=rfl
 rw [e0] at h2
 have k0:=(World.ownsRow.stored h2 (o+0) (.int .i64 x.op)).1
 rw [set_at _ _ _ 0 hl] at k0
 have k1:=(World.ownsRow.stored k0 (o+1) (.string x.s)).1
 rw [set_at _ _ _ 1 hl] at k1
 have k2:=(World.ownsRow.stored k1 (o+2) (.int .i64 x.n)).1
 rw [set_at _ _ _ 2 hl] at k2
 have k3:=(World.ownsRow.stored k2 (o+3) (.slice A x.l.length c)).1
 rw [set_at _ _ _ 3 hl] at k3
 have k4:=(World.ownsRow.stored k3 (o+4) (.int .i64 x.line)).1
 rw [set_at _ _ _ 4 hl] at k4
 have hlen:l1.length=acc.length:=by rw [← h1,List.length_map]
 have hold : ∀ k,g≠k→(sets5at w g o (.int .i64 x.op) (.string x.s) (.int .i64 x.n) (.slice A x.l.length c) (.int .i64 x.line)).heap[k]? = w.heap[k]? := fun k hk=>by
  unfold sets5at
  rw [Below.heap_setCell _ _ _ _ (Ne.symm hk),Below.heap_setCell _ _ _ _ (Ne.symm hk),Below.heap_setCell _ _ _ _ (Ne.symm hk),Below.heap_setCell _ _ _ _ (Ne.symm hk),Below.heap_setCell _ _ _ _ (Ne.symm hk)]
 have hsz:w.heap.size≤(sets5at w g o (.int .i64 x.op) (.string x.s) (.int .i64 x.n) (.slice A x.l.length c) (.int .i64 x.line)).heap.size:=by simp [sets5at,World.setCell]
 refine ⟨l1++[(x,.slice A x.l.length c)],by simp [h1],?_,fun p hp => ?_⟩
 ·rw [flatN_snoc,List.length_append,List.length_singleton,hlen]
  exact k4
 ·rcases List.mem_append.1 hp with hp | hp
  ·obtain ⟨h5,d5,h6⟩:=h3 p hp
   exact ⟨h5,d5,(h6.turn (fun k hk _=>hold k hk.2) hsz).weaken fun k _ hk=>⟨hk.1,fun e=>hk.2 (by simpa [Value.ownBlock] using e)⟩⟩
  ·simp only [List.mem_singleton] at hp
   subst hp
   exact ⟨hok,d,(htr.turn (fun k hk _=>hold k hk.2) hsz).weaken fun k _ hk=>⟨hk.1,fun e=>hk.2 (by simpa [Value.ownBlock] using e)⟩⟩
end
abbrev Turn2 (rb nb:Nat) (w w':World):Prop:=Turn (fun k=>k=rb∨k=nb) w w'
section
variable {rb nb last:Nat} {a b c:World} {l:List Tl}
theorem Turn2.ofR (h:TurnR rb a b):Turn2 rb nb a b:=h.mono fun _ _ e=>Or.inl e
theorem Turn2.r (h:Turn2 rb nb a b) (k:TurnR rb b c):Turn2 rb nb a c:=Turn.trans h (Turn2.ofR k) (fun _ _ e=>e)
theorem Turn2.al (h:Turn2 rb nb a b) (o:Obj):Turn2 rb nb a (b.alloc o):=Turn.alloc h o
theorem Turn2.dr (h:Turn2 rb nb a b):Turn2 rb nb a b.drew:=Turn.drew h
theorem Turn2.set (h:Turn2 rb nb a b) (j:Nat) (u:Value):Turn2 rb nb a (b.setCell ⟨nb,j,none⟩ u):=Turn.setCell h (fun _=>Or.inr rfl) u
theorem Turn2.high (h:Turn2 rb nb a b) {g:Nat} (hg:a.heap.size≤g) (j:Nat) (u:Value):Turn2 rb nb a (b.setCell ⟨g,j,none⟩ u):=Turn.setCell h (fun e=>absurd e (by show ¬ g<a.heap.size;omega)) u
theorem Turn2.grown {W w':World} {row:Option Nat} (h:Turn2 rb nb a W) (hg:W.grownBy w' row) (hr : ∀ k,row=some k→a.heap.size≤k):Turn2 rb nb a w':=Turn.grown h hg (fun k hk e=>absurd (hr k e) (by omega))
end
section
variable {rb nb last:Nat} {a b:World} {l:List Tl} {g:Nat}
theorem St.set5at (h:St b rb last l) (hg:rb<g) (o:Nat) (v0 v1 v2 v3 v4:Value):St (sets5at b g o v0 v1 v2 v3 v4) rb last l:=((((h.set' hg v0).set' hg v1).set' hg v2).set' hg v3).set' hg v4
theorem Turn2.set5at (h:Turn2 rb nb a b) (hg:a.heap.size≤g) (o:Nat) (v0 v1 v2 v3 v4:Value):Turn2 rb nb a (sets5at b g o v0 v1 v2 v3 v4):=((((h.high hg o v0).high hg (o+1) v1).high hg (o+2) v2).high hg (o+3) v3).high hg (o+4) v4
theorem Blk.set5at {t:TypeId} {cs:Array Value} {k:Nat} (h:Blk b k t cs) (hk:k≠g) (o:Nat) (v0 v1 v2 v3 v4:Value):Blk (sets5at b g o v0 v1 v2 v3 v4) k t cs :=
 ((((h.far (p:=⟨g,o,none⟩) hk v0).far (p:=⟨g,o+1,none⟩) hk v1).far (p:=⟨g,o+2,none⟩) hk v2).far (p:=⟨g,o+3,none⟩) hk v3).far (p:=⟨g,o+4,none⟩) hk v4
theorem TrU.app {B lo d:Nat} {W w8:World} {ts:List Tree} {v:Value} {row:Option Nat} (h:TrU lo W d ts v) (hg:W.grownBy w8 row) (hr : ∀ k,row=some k→k<lo) (hat:row=some g∨g=W.heap.size) (hB:B≤lo):TrP (fun k=>B≤k∧g≠k) w8 d ts v:=by
 have h6:TrP (fun k=>lo≤k∧k<W.heap.size) w8 d ts v:=h.lt.turn (fun k hk hs=>hg.block k hs (fun e=>by have:=hr k e.symm;omega)) hg.size
 refine h6.weaken fun k _ hk=>⟨by omega,fun e => ?_⟩
 subst e
 rcases hat with h | h
 ·have:=hr _ h;omega
 ·omega
end
structure AppP (rb last nb:Nat) (w:World) (r:List Tl) (c0 c1 c2 sl c4:Value) (acc:List Tree) (w9:World):Prop where
 st:St w9 rb last r
 tn:Turn2 rb nb w w9
 blk:Blk w9 nb 29 #[c0,c1,c2,sl,c4]
 row:RowT w.heap.size w9 acc sl
section
variable {rb last nb d g n cap o o1 o2 o3 o4 m c:Nat} {w w8:World} {r:List Tl} {c0 c1 c2 c3 c4:Value} {acc:List Tree} {z:Tree} {A:Option Addr}
theorem app_a (hrb:rb<nb) (hnl:nb<w.heap.size) (hgw:w.heap.size≤g) (hs8:St w8 rb last r) (ht8:Turn2 rb nb w w8) (hn8:Blk w8 nb 29 #[c0,c1,c2,c3,c4]) (hrow:RowT w.heap.size w8 (acc++[zeroT]) (.slice (some ⟨g,0,none⟩) n cap)) (ho:o=acc.length*5) (hm:m=z.l.length) (hok:z.ok)
  (htz:TrP (fun k=>w.heap.size≤k∧g≠k) w8 d z.l (.slice A z.l.length c)) (e1:o1=o+1) (e2:o2=o+2) (e3:o3=o+3) (e4:o4=o+4) :
  AppP rb last nb w r c0 c1 c2 (.slice (some ⟨g,0,none⟩) n cap) c4 (acc++[z]) ((((((w8.setCell ⟨g,o,none⟩ (.int .i64 z.op)).setCell ⟨g,o1,none⟩ (.string z.s)).setCell ⟨g,o2,none⟩ (.int .i64 z.n)).setCell ⟨g,o3,none⟩ (.slice A m c)).setCell ⟨g,o4,none⟩ (.int .i64 z.line)).setCell ⟨nb,3,none⟩ (.slice (some ⟨g,0,none⟩) n cap)):=by
 subst hm e1 e2 e3 e4
 have hng:nb≠g:=by omega
 refine ⟨(hs8.set5at (by omega) o (.int .i64 z.op) (.string z.s) (.int .i64 z.n) (.slice A z.l.length c) (.int .i64 z.line)).set' (g:=nb) (j:=3) hrb _,Turn2.set (Turn2.set5at ht8 hgw o (.int .i64 z.op) (.string z.s) (.int .i64 z.n) (.slice A z.l.length c) (.int .i64 z.line)) 3 _,?_,
  (RowT.put hrow ho rfl hok htz).far (p:=⟨nb,3,none⟩) hnl _⟩
 have hq:=(hn8.set5at hng o (.int .i64 z.op) (.string z.s) (.int .i64 z.n) (.slice A z.l.length c) (.int .i64 z.line)).set_ 3 (.slice (some ⟨g,0,none⟩) n cap)
 simpa [sets5at] using hq
theorem app_b (hrb:rb<nb) (hnl:nb<w.heap.size) (hgw:w.heap.size≤g) (hs8:St w8 rb last r) (ht8:Turn2 rb nb w w8) (hn8:Blk w8 nb 29 #[c0,c1,c2,c3,c4]) (hrow:RowT w.heap.size w8 (acc++[zeroT]) (.slice (some ⟨g,0,none⟩) n cap)) (ho:o=acc.length*5) (hm:m=z.l.length) (hok:z.ok)
  (htz:TrP (fun k=>w.heap.size≤k∧g≠k) w8 d z.l (.slice A z.l.length c)) (e1:o1=o+1) (e2:o2=o+2) (e3:o3=o+3) (e4:o4=o+4) :
  AppP rb last nb w r c0 c1 c2 (.slice (some ⟨g,0,none⟩) n cap) c4 (acc++[z]) ((((((w8.setCell ⟨nb,3,none⟩ (.slice (some ⟨g,0,none⟩) n cap)).setCell ⟨g,o,none⟩ (.int .i64 z.op)).setCell ⟨g,o1,none⟩ (.string z.s)).setCell ⟨g,o2,none⟩ (.int .i64 z.n)).setCell ⟨g,o3,none⟩ (.slice A m c)).setCell ⟨g,o4,none⟩ (.int .i64 z.line)):=by
 subst hm e1 e2 e3 e4
 have hng:nb≠g:=by omega
 have hq:Blk (w8.setCell ⟨nb,3,none⟩ (.slice (some ⟨g,0,none⟩) n cap)) nb 29 #[c0,c1,c2,(.slice (some ⟨g,0,none⟩) n cap),c4]:=by
  have hq:=hn8.set_ 3 (.slice (some ⟨g,0,none⟩) n cap)
  simpa using hq
 exact ⟨(hs8.set' (g:=nb) (j:=3) hrb _).set5at (by omega) o _ _ _ _ _,Turn2.set5at (Turn2.set ht8 3 _) hgw o _ _ _ _ _,hq.set5at hng o _ _ _ _ _,
  RowT.put (hrow.far (p:=⟨nb,3,none⟩) hnl _) ho rfl hok (htz.far (p:=⟨nb,3,none⟩) (fun h=>absurd h.1 (by show ¬ w.heap.size≤nb;omega)) _)⟩
end
def PostW (rb last nb:Nat) (w:World) (y:Except (Int × Int) (Tree × List Tl)) (e:Ending) (w':World):Prop :=
 match y with
 | .ok (t,r)=>(∃ v,e = .returned v)∧St w' rb last r∧Turn2 rb nb w w'∧t.ok ∧ ∃ d A c,Blk w' nb 29 #[.int .i64 t.op,.string t.s,.int .i64 t.n,.slice A t.l.length c,.int .i64 t.line]∧TrU w.heap.size w' d t.l (.slice A t.l.length c)
 | .error (c,ln)=>e = .panicked (pan c ln)∧Turn2 rb nb w w'
theorem PostW.err {rb last nb:Nat} {w w':World} {y:Except (Int × Int) (Tree × List Tl)} {c ln:Int} (h:y = .error (c,ln)) (ht:Turn2 rb nb w w'):PostW rb last nb w y (.panicked (pan c ln)) w':=by
 subst h
 exact ⟨rfl,ht⟩
theorem PostW.ok {rb last nb:Nat} {w w':World} {t:Tree} {r:List Tl} {v:Value} {A:Option Addr} {c:Nat} (hs:St w' rb last r) (ht:Turn2 rb nb w w') (hok:t.ok) (hb:Blk w' nb 29 #[.int .i64 t.op,.string t.s,.int .i64 t.n,.slice A t.l.length c,.int .i64 t.line]) (htr : ∃ d,TrU w.heap.size w' d t.l (.slice A t.l.length c)):PostW rb last nb w (.ok (t,r)) (.returned v) w':=by
 obtain ⟨d,htr⟩:=htr
 exact ⟨⟨v,rfl⟩,hs,ht,hok,d,A,c,hb,htr⟩
abbrev WordC (rb last f:Nat) (s:List UInt8) (fid:FuncId):Prop := ∀ w nb (ln:Int) l y,rb<nb→Blk w nb 29 #[.int .i64 0,.string ⟨#[]⟩,.int .i64 0,.slice none 0 0,.int .i64 ln]→St w rb last l→wordS last (fns last f) s ln l=some y →
 Calls Tryz.prog fid #[rdP rb,.pointer (some ⟨nb,0,none⟩)] w (PostW rb last nb w y)
theorem RowT.treesU {B:Nat} {W:World} {acc:List Tree} {v:Value} (h:RowT B W acc v) (hl:acc.length≤1000000) : ∃ d,TrU B W d acc v:=h.trees (by simp only [maxLen];omega)
end
section
open Go.RowKit Go.Sort
section
variable {w:World} {rb last:Nat} {l:List Tl}
theorem isAt2 (h:St w rb last l) (s t:ByteArray) (n:Nat) (hn:n=w.heap.size) (b:Bool) (hb:atF [s.data.toList,t.data.toList] l=b) :
  Calls Tryz.prog 64 #[.pointer (some ⟨rb,0,none⟩),.slice (some ⟨n,0,none⟩) 2 2] (w.alloc (.cells #[.string s,.string t] 9)) fun e w'=>e = .returned (.bool b)∧Below w.heap.size w w':=by
 subst hn
 subst hb
 exact (isAt_calls (w.alloc (.cells #[.string s,.string t] 9)) rb last l (h.alloc _) w.heap.size [s,t] (Txs.new w [s,t] _ (by simp))).mono fun e w' hq=>⟨hq.1,((Below.refl _ _).alloc (Nat.le_refl _) _).trans (hq.2.mono (by simp))⟩
theorem musts_two (last:Nat) (s t:List UInt8) (l:List Tl):mustsF last [s,t] l=(mustF last s l).bind fun _ r=>mustF last t r:=by
 show (mustF last s l).bind _=_
 congr 1
 funext _ r
 exact musts_one last t r
theorem must2 (h:St w rb last l) (s t:ByteArray) (n:Nat) (hn:n=w.heap.size) (y:Except (Int × Int) (Unit × List Tl)) (hy:(mustF last s.data.toList l).bind (fun _ r=>mustF last t.data.toList r)=some y) :
  Calls Tryz.prog 82 #[.pointer (some ⟨rb,0,none⟩),.slice (some ⟨n,0,none⟩) 2 2] (w.alloc (.cells #[.string s,.string t] 9)) (PostS rb last w anyV y):=by
 subst hn
 refine (must_calls (w.alloc (.cells #[.string s,.string t] 9)) rb last l (h.alloc _) w.heap.size [s,t] (Txs.new w [s,t] _ (by simp)) h.lt y (by rw [show bl [s,t]=[s.data.toList,t.data.toList] from rfl,musts_two];exact hy)).mono ?_
 intro e w' hq
 match y,hq with
 | .ok (a,r),hq=>exact ⟨hq.1,hq.2.1,(alloc_turn w rb _).trans hq.2.2⟩
 | .error (c,ln),hq=>exact ⟨hq.1,(alloc_turn w rb _).trans hq.2⟩
theorem name_len (h:St w rb last l) {x:List UInt8} {r:List Tl} (hx:nameF last l=some (.ok (x,r))):x.length≤maxLen:=by
 unfold nameF at hx
 cases l with
 | nil=>exact absurd hx (by simp [hereF,Tk.zero,stopF,failF])
 | cons t l =>
  split at hx
  ·injection hx with hx
   injection hx with hx
   injection hx with hx _
   subst hx
   have:=(h.ok (t:=t) (by simp)).s
   show t.t.s.length≤maxLen
   simp only [maxLen]
   omega
  ·exact absurd hx (by simp [stopF,failF])
theorem err_eq {α : Type} {e:Int} {y:Except (Int × Int) (α × List Tl)} (h:(failF last e l:Rd α)=some y):y = .error (e,((hereF last l).line:Int)):=by
 injection h with h
 exact h.symm
theorem bind2 {α β γ : Type} {x:Rd α} {g : α → List Tl→Rd β} {k : β → List Tl→Rd γ}:(x.bind fun a r=>(g a r).bind k)=(x.bind g).bind k:=by
 match x with
 | none=>rfl
 | some (.error e)=>rfl
 | some (.ok (a,r))=>rfl
end
end
section
open Go.RowKit
def roundPostP (P:Program) (l:Nat) (R:Ending→World→Prop):Exit→Act→World→Prop
 | .panic chain,a,w=>a.defers=[]∧R (.panicked chain) w
 | e,a,w=>roundPost P l R e a w
theorem roundIn_of_wpInP {F:Fence} {n:Nat} {P:Program} {l:Nat} {f:FuncId} {tmps:Array Value} {assign body:Code} {w:World} {R:Ending→World→Prop} (hF:F.fn f) (hfn : ∃ fn,P.funcs[f]? = some fn)
  (h:assign.wpIn (F.inRound l) n P (Exit.then (fun a₁ w₁ => ∃ w₂,(Instr.beginRound l).run P w₁ = .ok () w₂ ∧ body.wpIn (F.inRound l) n P (roundPostP P l R) a₁ w₂) (fun _ _ _=>False))
   { tmps:=tmps,defers:=[] } w) :
  RoundIn F n P l f tmps assign body w R:=by
 refine ⟨hF,fun c cs hr => ?_⟩
 let b:Frame:={ (default:Frame) with fn:=f,kind := .normal,roundOf:=some l }
 have hb0:Frame.round l f tmps assign body .normal=b.atR { tmps:=tmps,defers:=[] } [.code assign,.beginRound,.code body]:=by
  simp [Frame.round,Frame.atR,b]
 have hr':(F.inRound l).room ((c::cs).length+1+n):=hr
 have hF':(F.inRound l).fn b.fn:=hF
 obtain ⟨e,a₁,w₁,hq,harr⟩:=h b [.beginRound,.code body] (c::cs) rfl hF' hr'
 rw [← hb0] at harr
 cases e with
 | normal =>
  obtain ⟨w₂,hbr,hbody⟩:=hq
  have s1:StepsIn (Machine.fenced P (F.inRound l)) P (lone (b.atR a₁ [.beginRound,.code body]) (c::cs) w₁) (lone (b.atR a₁ [.code body]) (c::cs) w₂) :=
   .one (fenced_calm (fr:=b.atR a₁ [.beginRound,.code body]) hF' hr' rfl) (stepR_beginRound rfl hbr)
  obtain ⟨e₂,a₂,w₃,hq₂,harr₂⟩:=hbody b [] (c::cs) rfl hF' hr'
  cases e₂ with
  | normal =>
   obtain ⟨v,w₄,hend,hR⟩:=hq₂
   exact ⟨.returned v,w₄,hR,(StepsIn.trans harr s1).trans (StepsIn.trans harr₂ (.one (fenced_calm (fr:=b.atR a₂ []) hF' hr' rfl) (stepR_round_end rfl rfl hend)))⟩
  | ret =>
   obtain ⟨v,w₄,hend,hR⟩:=hq₂
   obtain ⟨k₁,hs⟩:=harr₂.2 rfl
   exact ⟨.returned v,w₄,hR,(StepsIn.trans harr s1).trans (StepsIn.trans hs (.one (fenced_calm (fr:=b.atR a₂ (.code .ret::k₁)) hF' hr' rfl) (stepR_round_ret rfl rfl hend)))⟩
  | exit id =>
   obtain ⟨v,w₄,hend,hR⟩:=hq₂
   obtain ⟨k₁,hk,hs⟩:=harr₂.2 rfl rfl
   exact ⟨.returned v,w₄,hR,(StepsIn.trans harr s1).trans (StepsIn.trans hs (.one (fenced_calm (fr:=b.atR a₂ (.code (.exit id)::k₁)) hF' hr' rfl) (stepR_round_exit rfl rfl hk hend)))⟩
  | goto t =>
   obtain ⟨v,w₄,hend,hR⟩:=hq₂
   obtain ⟨k₁,hk,hs⟩:=harr₂.2 rfl rfl
   exact ⟨.returned v,w₄,hR,(StepsIn.trans harr s1).trans (StepsIn.trans hs (.one (fenced_calm (fr:=b.atR a₂ (.code (.goto t)::k₁)) hF' hr' rfl) (stepR_round_goto rfl rfl hk hend)))⟩
  | panic chain =>
   obtain ⟨hd,hR⟩:=hq₂
   obtain ⟨todo,hs⟩:=harr₂
   have hleave:({ b.atR a₂ todo with mode := .panicking chain }:Frame).leaving P w₃ (.panicked chain):=⟨rfl,hd,hfn⟩
   exact ⟨.panicked chain,w₃,hR,(StepsIn.trans harr s1).trans (StepsIn.trans hs (.one (fenced_leaving (fr:={ b.atR a₂ todo with mode := .panicking chain }) hF' hr' hleave) (step_leave_panicked hleave)))⟩
  | outgrown=>exact hq₂.elim
 | exit id=>exact hq.elim
 | goto t=>exact hq.elim
 | ret=>exact hq.elim
 | panic chain=>exact hq.elim
 | outgrown=>exact hq.elim
def leavePostP (l:Nat) (R:LoopState→Option Code→Obj) (Go:World→Prop) (Stop:Code→World→Prop) (Pan:List PanicEntry→World→Prop):Exit→Act→World→Prop
 | .panic c,a,w=>a.defers=[]∧Pan c w
 | e,a,w=>leavePost l R Go Stop e a w
variable {F:Fence} {n:Nat} {P:Program}
theorem yield_ofP {fn:FuncId} {tmps:Array Value} {ps:Array Tmp} {assign body:Code} {D l m:Nat} {args:Array Value} {W:World} {R:LoopState→Option Code→Obj} (hR:recOf fn tmps ps assign body D=R)
  (Go:World→Prop) (Stop:Code→World→Prop) (Pan:List PanicEntry→World→Prop) (hF:F.fn fn) (hfn : ∃ f,P.funcs[fn]? = some f)
  (hl:W.heap[l]? = some (R .ready none)) (hs:args.size=ps.size)
  (h:assign.wpIn (F.inRound l) m P (Exit.then (fun a1 W1=>W1.heap[l]? = some (R .ready none) ∧
    body.wpIn (F.inRound l) m P (leavePostP l R Go Stop Pan) a1 (W1.putObj l (R .busy none))) (fun _ _ _=>False))
   { tmps:=(ps.zip args).foldl (fun t (p,v)=>t.setIfInBounds p v) tmps,defers:=[] } W) :
  YieldAt F m P l args W fun e W'=>(e = .returned (.bool true)∧Go W')∨(e = .returned (.bool false) ∧ ∃ c,Stop c W')∨(∃ c,e = .panicked c∧Pan c W'):=by
 subst hR
 refine ⟨fn,_,assign,body,run_yield hl hs,roundIn_of_wpInP hF hfn ?_⟩
 refine wpIn_mono h ?_
 intro e a1 W1 hq
 cases e with
 | normal =>
  obtain ⟨hl1,hb⟩:=hq
  refine ⟨_,run_beginRound hl1 rfl,wpIn_mono hb ?_⟩
  intro e a2 W2 hq2
  cases e with
  | normal =>
   obtain ⟨hl2,hg⟩:=hq2
   exact ⟨_,_,run_endRound none hl2,.inl ⟨rfl,hg⟩⟩
  | ret =>
   obtain ⟨hl2,hg⟩:=hq2
   exact ⟨_,_,run_endRound (some .ret) hl2,.inr (.inl ⟨rfl,_,hg⟩)⟩
  | exit id =>
   obtain ⟨hl2,hg⟩:=hq2
   exact ⟨_,_,run_endRound (some (.exit id)) hl2,.inr (.inl ⟨rfl,_,hg⟩)⟩
  | goto t =>
   obtain ⟨hl2,hg⟩:=hq2
   exact ⟨_,_,run_endRound (some (.goto t)) hl2,.inr (.inl ⟨rfl,_,hg⟩)⟩
  | panic c =>
   obtain ⟨hd,hp⟩:=hq2
   exact ⟨hd,.inr (.inr ⟨c,rfl,hp⟩)⟩
  | outgrown=>exact hq2.elim
 | ret=>exact hq.elim
 | exit id=>exact hq.elim
 | goto t=>exact hq.elim
 | panic c=>exact hq.elim
 | outgrown=>exact hq.elim
def behindP (F:Fence) (n:Nat) (P:Program) (l D:Nat) (R:LoopState→Option Code→Obj) (Q:Exit→Act→World→Prop) (a':Act) (e:Ending) (W:World):Prop :=
 behind F n P l D R Q a' e W ∨ ∃ c,e = .panicked c∧Q (.panic c) a' W
theorem range_outerP {g:Operand} {ps:Array Tmp} {assign body:Code} {Q:Exit→Act→World→Prop} {a:Act} {w:World}
  (hro:F.round=none) (h1:1≤n) {gf:Nat} {lb:Array Value} (hg:a.eval g = .func (.func gf) #[] lb) (hFg:F.fn gf) (eg : ∀ args w,(callFunc gf args).run P w = .ok (.enter gf args) w)
  (h : ∀ fn R,F.fn fn→recOf fn a.tmps ps assign body w.heap.size=R→CallsIn F (n-1) P gf (#[.func (.yield (w.heap.size+1)) #[] #[]]++lb)
   ((w.alloc (.deferred (some []))).alloc (R .ready none))
   (behindP F n P (w.heap.size+1) w.heap.size R Q { a with defers:={ target := .collected w.heap.size,args:=#[] }::a.defers })) :
  (Code.rangeFunc g ps assign body).wpIn F n P Q a w:=by
 refine wpIn_rangeFunc ?_
 intro fn hfn
 rw [hro]
 refine ⟨w.heap.size+1,[{ target := .collected w.heap.size,args:=#[] }],(w.alloc (.deferred (some []))).alloc (recOf fn a.tmps ps assign body w.heap.size .ready none),{ target := .fn (.func gf) lb,args:=#[.func (.yield (w.heap.size+1)) #[] #[]] },(w.alloc (.deferred (some []))).alloc (recOf fn a.tmps ps assign body w.heap.size .ready none),gf,
  #[.func (.yield (w.heap.size+1)) #[] #[]]++lb,(w.alloc (.deferred (some []))).alloc (recOf fn a.tmps ps assign body w.heap.size .ready none),run_enterLoop_outer _ _ _ _ _,?_,?_,?_,fun _=>h1,?_⟩
 ·simp only [resolve,hg]
  simp [go_sem]
 ·intro f' hf'
  simp [Target.leads] at hf'
  subst hf'
  exact hFg
 ·simp [invoke,go_sem,eg]
 ·refine (h fn _ hfn rfl).mono ?_
  rintro e W (⟨⟨v,rfl⟩,_,(⟨hl,hq⟩ | ⟨c,hl,hq⟩)⟩ | ⟨c,rfl,hq⟩)
  ·exact ⟨none,_,run_endLoop hl (by simp),hq⟩
  ·exact ⟨some c,_,run_endLoop hl (by simp),hq⟩
  ·exact hq
end
section
open Go.RowKit Go.Sort
def contF (last:Nat) (tx:List UInt8) (rec:List Tree→List Tl→Rd (List Tree)) (a:List Tree) (r:List Tl):Rd (List Tree) :=
 if atF [[44]] r then rec a r.tail else (mustF last tx r).bind fun _ q => .ok a q
def PostL (rb last:Nat) (J:List Tree→World→Prop) (Pan:World→Prop) (y:Except (Int × Int) (List Tree × List Tl)) (e:Ending) (w':World):Prop :=
 match y with
 | .ok (a,q)=>(∃ v,e = .returned v)∧J a w'∧St w' rb last q∧a.length≤200000
 | .error (c,ln)=>e = .panicked (pan c ln)∧Pan w'
def PostY (rb last:Nat) (J:List Tree→World→Prop) (Pan:World→Prop) (y:Except (Int × Int) (List Tree × List Tl)) (e:Ending) (w':World):Prop :=
 match y with
 | .ok (a,q)=>e = .returned (.bool true)∧J a w'∧St w' rb last q
 | .error (c,ln)=>e = .panicked (pan c ln)∧Pan w'
def LRel (rb last:Nat) (tx:List UInt8) (J:List Tree→World→Prop) (rec:Nat→List Tree→List Tl→Rd (List Tree)) (G:Nat) (y:Except (Int × Int) (List Tree × List Tl)) (i m:Value) (wr:World):Prop :=
 ∃ (k:Nat) (acc:List Tree) (l:List Tl),i = .int .i64 (k:Nat)∧(k≤100001∧acc.length=k)∧J acc wr∧St wr rb last l ∧
  ((m = .bool true∧k+l.length≤100000 ∧ ∃ g,g≤G∧rec (g+1) acc l=some y)∨(m = .bool false∧(mustF last tx l).bind (fun _ q=>Rd.ok acc q)=some y))
theorem PostL.err {rb last:Nat} {J:List Tree→World→Prop} {Pan:World→Prop} {y:Except (Int × Int) (List Tree × List Tl)} {w':World} {c ln:Int} (h:y = .error (c,ln)) (hp:Pan w'):PostL rb last J Pan y (.panicked (pan c ln)) w':=by
 subst h
 exact ⟨rfl,hp⟩
theorem PostL.ok {rb last:Nat} {J:List Tree→World→Prop} {Pan:World→Prop} {a:List Tree} {q:List Tl} {w':World} {v:Value} (hj:J a w') (hs:St w' rb last q) (hl:a.length≤200000):PostL rb last J Pan (.ok (a,q)) (.returned v) w':=⟨⟨v,rfl⟩,hj,hs,hl⟩
set_option maxRecDepth 100000 in
set_option maxHeartbeats 4000000 in
theorem listed1_in {rb last:Nat} (n lr b1 b2:Nat) (tx:ByteArray) (J:List Tree→World→Prop) (Pan:World→Prop) (one rec:Nat→List Tree→List Tl→Rd (List Tree))
  (hrec : ∀ g acc l,rec (g+1) acc l=(one g acc l).bind (contF last tx.data.toList (rec g))) (hrec0 : ∀ acc l,rec 0 acc l=none)
  (hlen : ∀ g acc l a r,one g acc l=some (.ok (a,r))→r.length≤l.length∧a.length=acc.length+1)
  (hJt : ∀ a W W',J a W→TurnR rb W W'→J a W') (hJc : ∀ a W,J a W→rb<W.heap.size∧(b1<W.heap.size∧W.cell? ⟨b1,0,none⟩=some (rdP rb))∧(b2<W.heap.size∧W.cell? ⟨b2,0,none⟩=some (.string tx)))
  (hP : ∀ a W W',J a W→TurnR rb W W'→Pan W') (G:Nat)
  (hY : ∀ (i:Int) acc g l W y,g≤G→acc.length≤100000→J acc W→St W rb last l→one g acc l=some y→YieldAt Fence.wide (n-1) Tryz.prog lr #[.int .i64 i] W (PostY rb last J Pan y))
  (W:World) (l0:List Tl) (h0:J [] W) (hs0:St W rb last l0) (y:Except (Int × Int) (List Tree × List Tl)) (hy0:(if atF [tx.data.toList] l0 then Rd.ok [] l0.tail else rec (G+1) [] l0)=some y) :
  CallsIn Fence.wide n Tryz.prog 202 #[.func (.yield lr) #[] #[],.pointer (some ⟨b1,0,none⟩),.pointer (some ⟨b2,0,none⟩)] W (PostL rb last J Pan y):=by
 have HJT:=Lib.hid hJt
 have HJC:=Lib.hid hJc
 have HP:=Lib.hid hP
 have HY:=Lib.hid hY
 have HLEN:=Lib.hid hlen
 have HREC:=Lib.hid hrec
 have HREC0:=Lib.hid hrec0
 have hl0:=hs0.len
 obtain ⟨hrb,⟨hb1,hc1⟩,hb2,hc2⟩:=hJc _ _ h0
 have H0:=Lib.hid h0
 have HS0:=Lib.hid hs0
 have HYY:=Lib.hid hy0
 clear hJt hJc hP hY hlen hrec hrec0 h0 hs0 hy0
 refine callsIn_of_wp Tryz.func202 rfl trivial ?_ rfl
 simp only [Tryz.ntmps202,List.size_toArray,List.length_cons,List.length_nil,Nat.reduceAdd,Nat.reduceSub,Array.replicate_succ,Array.replicate_zero,List.push_toArray,List.append_toArray,List.nil_append,List.cons_append]
 gi_wp2
 have HWR:=Lib.hid hrb
 have SC:Hid (∀ w9,Below W.heap.size W w9→(w9.cell? ⟨b1,0,none⟩=some (rdP rb)∧w9.cell? ⟨b2,0,none⟩=some (.string tx))):=Lib.hid fun w9 h9=>⟨(World.cell?_of_block (h9.block b1 hb1)).trans hc1,(World.cell?_of_block (h9.block b2 hb2)).trans hc2⟩
 have hbd:Below W.heap.size W W.drew:=(Below.refl _ _).drew
 refine wpIn_wide.2 ?_
 obtain ⟨b,hb⟩ : ∃ b,atF [tx.data.toList] l0=b:=⟨_,rfl⟩
 have HAT:=Lib.hid hb
 clear hb
 go_region_held3 (fun w9=>w9.cell? ⟨b1,0,none⟩=some (rdP rb)∧w9.cell? ⟨b2,0,none⟩=some (.string tx)) (first
  | exact SC.out _ (by assumption)
  | exact SC.out _ (hbd.alloc (Nat.le_refl _) _)) (first
  | (go_at_call 64;refine (isAt1 HS0.out.dr tx _ rfl b HAT.out).mono ?_;rintro e w2 ⟨rfl,hb2'⟩;have hb2'':Below W.heap.size W w2:=hbd.trans hb2'))
 have HREL:Hid (LRel rb last tx.data.toList J rec G y (.int .i64 (0:Nat)) (.bool (!b)) w2):=Lib.hid (by
  refine ⟨0,[],l0,rfl,⟨by omega,rfl⟩,HJT.out _ _ _ H0.out (turn_below hb2''),HS0.out.below hb2'',?_⟩
  have hyy:=HYY.out
  rw [HAT.out] at hyy
  cases b with
  | true =>
   refine .inr ⟨rfl,?_⟩
   unfold mustF
   rw [if_pos HAT.out]
   exact hyy
  | false=>exact .inl ⟨rfl,by omega,G,Nat.le_refl _,hyy⟩)
 clear hb2' hb2'' hbd SC hc1 hc2 hb1 hb2 hrb
 gi_wp2
 gi_loopw [4,5] (fun i m wr=>LRel rb last tx.data.toList J rec G y i m wr) (fun i _ _=>200000-(intOf i).toNat)
 case atStart=>exact HREL.out
 case round =>
  obtain ⟨k,acc,l,rfl,⟨hk,hka⟩,hj,hst,hor⟩:=hrel
  have HKA:=Lib.hid hka
  clear hka
  obtain ⟨hrb,⟨hb1,hc1⟩,hb2,hc2⟩:=HJC.out _ _ hj
  have HJ:=Lib.hid hj
  have HS:=Lib.hid hst
  clear hj hst
  rcases hor with ⟨rfl,hkl,g,hg,hr⟩ | ⟨rfl,hr⟩
  ·rw [HREC.out] at hr
   cases hone:one g acc l with
   | none=>rw [hone] at hr;cases hr
   | some y1 =>
    rw [hone] at hr
    have HY1:=Lib.hid (HY.out (k:Nat) acc g l wr y1 hg (by have:=HKA.out;omega) HJ.out HS.out hone)
    obtain ⟨fn,tmps,assign,body,hy,hR⟩:=HY1.out
    have HONE:=Lib.hid hone
    clear hone hc1 hc2
    match y1,hr,hR with
    | .error (c,ln),hr,hR =>
     have hye:y = .error (c,ln):=by
      have hr:some (Except.error (c,ln))=some y:=hr
      injection hr with hr
      exact hr.symm
     have HYE:=Lib.hid hye
     clear hr hye
     gi_wp2
     refine ⟨fun hh=>(by cases hh),hR.mono ?_⟩
     rintro e W3 ⟨rfl,hp⟩
     exact ⟨rfl,PostL.err HYE.out hp⟩
    | .ok (a,r),hr,hR =>
     have HR2:Hid (contF last tx.data.toList (rec g) a r=some y):=Lib.hid hr
     clear hr
     gi_wp2
     refine ⟨fun hh=>(by cases hh),hR.mono ?_⟩
     rintro e W3 ⟨rfl,hj3,hs3⟩
     obtain ⟨hrb3,⟨hb3,hc3⟩,hb4,hc4⟩:=HJC.out _ _ hj3
     have HJ3:=Lib.hid hj3
     have HS3:=Lib.hid hs3
     clear hj3 hs3 hR hy
     have hk2:k+r.length≤100000:=by have:=(HLEN.out _ _ _ _ _ HONE.out).1;omega
     have HAL:Hid (a.length=k+1):=Lib.hid (by have:=(HLEN.out _ _ _ _ _ HONE.out).2;have:=HKA.out;omega)
     cases hc:atF [[44]] r with
     | true =>
      have HC:=Lib.hid hc
      have hrl:=at_len hc
      have hr3:rec g a r.tail=some y:=by
       have:=HR2.out
       unfold contF at this
       rw [if_pos hc] at this
       exact this
      have HR3:=Lib.hid hr3
      clear hc hr3
      gi_wp2
      refine ⟨trivial,fun hh=>(by cases hh),(callsIn_wide.2 (takes1 HS3.out ⟨#[44]⟩ _ rfl true HC.out)).mono ?_⟩
      rintro e W4 ⟨rfl,hs4,ht4⟩
      have HREL4:Hid (LRel rb last tx.data.toList J rec G y (.int .i64 ((k:Int)+1)) (.bool true) W4):=Lib.hid (by
       refine ⟨k+1,a,r.tail,by go_num,⟨by omega,HAL.out⟩,HJT.out _ _ _ HJ3.out ht4,by simpa using hs4,.inl ⟨rfl,by omega,?_⟩⟩
       have hr3:=HR3.out
       cases g with
       | zero=>rw [HREC0.out] at hr3;cases hr3
       | succ g=>exact ⟨g,by omega,hr3⟩)
      clear hs4 ht4
      gi_wp2
      exact ⟨HREL4.out,by simp [intOf];omega⟩
     | false =>
      have HC:=Lib.hid hc
      have hr3:(mustF last tx.data.toList r).bind (fun _ q=>Rd.ok a q)=some y:=by
       have:=HR2.out
       unfold contF at this
       rw [if_neg (by rw [hc];decide)] at this
       exact this
      have HR3:=Lib.hid hr3
      clear hc hr3
      gi_wp2
      refine ⟨trivial,fun hh=>(by cases hh),(callsIn_wide.2 (takes1 HS3.out ⟨#[44]⟩ _ rfl false HC.out)).mono ?_⟩
      rintro e W4 ⟨rfl,hs4,ht4⟩
      have HREL4:Hid (LRel rb last tx.data.toList J rec G y (.int .i64 ((k:Int)+1)) (.bool false) W4):=Lib.hid
       ⟨k+1,a,r,by go_num,⟨by omega,HAL.out⟩,HJT.out _ _ _ HJ3.out ht4,by simpa using hs4,.inr ⟨rfl,HR3.out⟩⟩
      clear hs4 ht4
      gi_wp2
      exact ⟨HREL4.out,by simp [intOf];omega⟩
  ·rcases bind_some hr with ⟨⟨c,ln⟩,h1,rfl⟩ | ⟨_,q,h1,h2⟩
   ·have HM:=Lib.hid h1
    clear h1 hr
    gi_wp2
    refine ⟨trivial,fun hh=>(by cases hh),(callsIn_wide.2 (must1 HS.out tx _ rfl _ HM.out)).mono ?_⟩
    rintro e W4 ⟨rfl,ht4⟩
    exact ⟨rfl,PostL.err rfl (HP.out _ _ _ HJ.out ht4)⟩
   ·have HM:=Lib.hid h1
    obtain rfl:=some_ok h2
    clear h1 h2 hr
    gi_wp2
    refine ⟨trivial,fun hh=>(by cases hh),(callsIn_wide.2 (must1 HS.out tx _ rfl _ HM.out)).mono ?_⟩
    rintro e W4 ⟨⟨v4,rfl,-⟩,hs4,ht4⟩
    have HJ4:=Lib.hid (HJT.out _ _ _ HJ.out ht4)
    have HS4:=Lib.hid hs4
    clear hs4 ht4
    gi_wp2
    go_end0
    exact PostL.ok HJ4.out HS4.out (by have:=HKA.out;omega)
end
end Go.Proofs.YtjjdmiaonkailaaGreatDoor
