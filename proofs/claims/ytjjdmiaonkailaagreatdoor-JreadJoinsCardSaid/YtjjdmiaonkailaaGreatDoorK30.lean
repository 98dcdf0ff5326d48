/- Walks and plain laws, packed: RdO. -/
import Derived.Test.YtjjdmiaonkailaaGreatDoorK21
import Derived.Deep.RegionHeld3
import Derived.Deep.RegionWith
import Derived.Deep.AppendLies
import Derived.Deep.RegionLaw
import Derived.Deep.LoopGhost
import Derived.WalkMore
namespace Go.Proofs.YtjjdmiaonkailaaGreatDoor
section
open Go.RowKit Go.Sort
theorem alloc8 (w:World) (a b c d e f g h:Obj) (k:Nat):((((((((w.alloc a).alloc b).alloc c).alloc d).alloc e).alloc f).alloc g).alloc h).heap[k]? =
  if k=w.heap.size then some a else if k=w.heap.size+1 then some b else if k=w.heap.size+1+1 then some c else if k=w.heap.size+1+1+1 then some d else if k=w.heap.size+1+1+1+1 then some e else if k=w.heap.size+1+1+1+1+1 then some f else if k=w.heap.size+1+1+1+1+1+1 then some g else if k=w.heap.size+1+1+1+1+1+1+1 then some h else w.heap[k]? := by
 show ((((((((w.heap.push a).push b).push c).push d).push e).push f).push g).push h)[k]? = _
 simp only [Array.getElem?_push,Array.size_push]
 by_cases h1:k=w.heap.size
 ·subst h1;simp (disch:=omega) only [if_neg]
 by_cases h2:k=w.heap.size+1
 ·subst h2;simp (disch:=omega) only [if_neg]
 by_cases h3:k=w.heap.size+1+1
 ·subst h3;simp (disch:=omega) only [if_neg]
 by_cases h4:k=w.heap.size+1+1+1
 ·subst h4;simp (disch:=omega) only [if_neg]
 by_cases h5:k=w.heap.size+1+1+1+1
 ·subst h5;simp (disch:=omega) only [if_neg]
 by_cases h6:k=w.heap.size+1+1+1+1+1
 ·subst h6;simp (disch:=omega) only [if_neg]
 by_cases h7:k=w.heap.size+1+1+1+1+1+1
 ·subst h7;simp (disch:=omega) only [if_neg]
 by_cases h8:k=w.heap.size+1+1+1+1+1+1+1
 ·subst h8;simp (disch:=omega) only [if_neg]
 simp only [if_neg h1,if_neg h2,if_neg h3,if_neg h4,if_neg h5,if_neg h6,if_neg h7,if_neg h8]
theorem txs_of {W:World} {bk:Nat} {xs:List ByteArray} {t:TypeId} (h:W.heap[bk]? = some (.cells (xs.map Value.string).toArray t (0,0))) (hl:xs.length≤1000):Txs W bk xs:=by
 have hb:Blk W bk t (xs.map Value.string).toArray:=h
 refine ⟨(Array.getElem?_eq_some_iff.1 h).1,fun k x hk => ?_,hl⟩
 rw [hb.cell k]
 simp [hk]
def signsX (n:Nat):List ByteArray:=(signsN n).map fun s=>⟨s.toArray⟩
theorem signsX_bl (n:Nat):bl (signsX n)=signsN n:=by
 unfold bl signsX
 rw [List.map_map]
 conv=>rhs;rw [← List.map_id (signsN n)]
 rfl
structure LvJ (w:World) (rb:Nat) (W:World):Prop where
 bx:Blk W w.heap.size 29 zeroN
 arr:Blk W (w.heap.size+1+1+1+1+1+1+1) 149 #[.slice (some ⟨w.heap.size+1,0,none⟩) 1 1,.slice (some ⟨w.heap.size+1+1,0,none⟩) 1 1,.slice (some ⟨w.heap.size+1+1+1,0,none⟩) 2 2,.slice (some ⟨w.heap.size+1+1+1+1,0,none⟩) 2 2,.slice (some ⟨w.heap.size+1+1+1+1+1,0,none⟩) 2 2,.slice (some ⟨w.heap.size+1+1+1+1+1+1,0,none⟩) 1 1]
 txs : ∀ n,n<6→Txs W (w.heap.size+1+n) (signsX n)
 tn:TurnR rb w W
variable {w W:World} {rb:Nat}
theorem LvJ.at (h:LvJ w rb W) {n:Nat} (hn:n<6):W.cell? ⟨w.heap.size+1+1+1+1+1+1+1,n,none⟩=some (.slice (some ⟨w.heap.size+1+n,0,none⟩) (signsX n).length (signsX n).length):=by
 have hc:=h.arr.cell n
 rw [hc]
 match n,hn with
 | 0,_=>rfl
 | 1,_=>rfl
 | 2,_=>rfl
 | 3,_=>rfl
 | 4,_=>rfl
 | 5,_=>rfl
theorem LvJ.size (h:LvJ w rb W):w.heap.size+1+1+1+1+1+1+1<W.heap.size:=h.arr.lt
theorem LvJ.keep {W':World} (h:LvJ w rb W) (hb : ∀ k,k<w.heap.size+1+1+1+1+1+1+1+1→W'.heap[k]? = W.heap[k]?) (hs:W.heap.size≤W'.heap.size) (ht:TurnR rb w W'):LvJ w rb W' :=
 ⟨h.bx.keep (hb _ (by omega)),h.arr.keep (hb _ (by omega)),fun n hn=>(h.txs n hn).keep (hb _ (by omega)) hs,ht⟩
theorem LvJ.tr {W':World} (h:LvJ w rb W) (hrb:rb<w.heap.size) (t:TurnR rb W W'):LvJ w rb W':=by
 have hsz:=h.size
 exact ⟨h.bx.tr t (by omega),h.arr.tr t (by omega),fun n hn=>(h.txs n hn).keep (t.block _ (by omega) (by omega)) t.size,TurnR.trans h.tn t⟩
theorem LvJ.high {W':World} (h:LvJ w rb W) (t:Turn (fun k=>w.heap.size+1+1+1+1+1+1+1+1≤k) W W'):LvJ w rb W':=by
 have hsz:=h.size
 exact h.keep (fun k hk=>t.block k (by omega) (by omega)) t.size (Turn.trans h.tn t (fun k hk e=>by omega))
theorem TrP.dr {d:Nat} {Bk:Nat→Prop} {a:World} {l:List Tree} {v:Value} (h:TrP Bk a d l v):TrP Bk a.drew d l v:=TrP.turn (W:=a) (W':=a.drew) (fun _ _ _=>rfl) (Nat.le_refl _) h
theorem LvJ.dr (h:LvJ w rb W):LvJ w rb W.drew:=h.keep (fun _ _=>rfl) (Nat.le_refl _) (TurnR.dr h.tn)
theorem LvJ.far (h:LvJ w rb W) {p:Addr} (h1:w.heap.size+1+1+1+1+1+1+1+1≤p.block) (u:Value):LvJ w rb (W.setCell p u) :=
 h.keep (fun k hk=>Below.heap_setCell _ _ _ _ (by omega)) (by simp [World.setCell]) (TurnR.set h.tn (by omega) u)
theorem lv_fin {last xb g cap e:Nat} {w8:World} {l:List Tl} {acc:List Tree} {T:TypeId} {u0 u1 u2 u3 u4:Value} (hlt:rb<w.heap.size) (hxb:w.heap.size+8≤xb) (hg:w.heap.size+8≤g) (hgx:g≠xb) (hge:g≠e) (hlen:acc.length≤1000000)
  (hrow:RowP (fun k=>(w.heap.size+8≤k∧k≠xb)∧k≠e) (w.heap.size+8) w8 acc (.slice (some ⟨g,0,none⟩) acc.length cap)) (hs:St w8 rb last l) (hL:LvJ w rb w8)
  (hx:Blk w8 xb T #[u0,u1,u2,u3,u4]) (v0 v1 v2 v3 v4:Value) :
  ∃ d,TrP (fun k=>w.heap.size+8≤k∧k≠xb) (sets5 w8 xb v0 v1 v2 v3 v4) d acc (.slice (some ⟨g,0,none⟩) acc.length cap)∧St (sets5 w8 xb v0 v1 v2 v3 v4) rb last l∧LvJ w rb (sets5 w8 xb v0 v1 v2 v3 v4) ∧
   Blk (sets5 w8 xb v0 v1 v2 v3 v4) xb T #[v0,v1,v2,v3,v4]:=by
 obtain ⟨d,hd⟩:=hrow.trees (fun k hk=>by
  obtain rfl:g=k:=by simpa [Value.ownBlock] using hk
  exact ⟨⟨hg,hgx⟩,hge⟩) (by simp only [maxLen];omega)
 have h0:¬ (fun k=>(w.heap.size+8≤k∧k≠xb)∧k≠e) xb:=fun h=>h.1.2 rfl
 have hd:=((((hd.far (p:=⟨xb,0,none⟩) h0 v0).far (p:=⟨xb,1,none⟩) h0 v1).far (p:=⟨xb,2,none⟩) h0 v2).far (p:=⟨xb,3,none⟩) h0 v3).far (p:=⟨xb,4,none⟩) h0 v4
 have h8:w.heap.size+1+1+1+1+1+1+1+1≤xb:=by omega
 exact ⟨d,hd.weaken fun k _ hk=>hk.1,hs.set5 (by omega) _ _ _ _ _,((((hL.far (p:=⟨xb,0,none⟩) h8 v0).far (p:=⟨xb,1,none⟩) h8 v1).far (p:=⟨xb,2,none⟩) h8 v2).far (p:=⟨xb,3,none⟩) h8 v3).far (p:=⟨xb,4,none⟩) h8 v4,hx.set5 _ _ _ _ _⟩
theorem RowP.two {Bk:Nat→Prop} {B d1 d2 cx cy:Nat} {w5:World} {x y:Tree} {A A2:Option Addr} (hB:B≤w5.heap.size) (hok:x.ok) (h:TrP Bk w5 d1 x.l (.slice A x.l.length cx)) (hok2:y.ok) (h2:TrP Bk w5 d2 y.l (.slice A2 y.l.length cy)) :
  RowP Bk B (w5.alloc (.cells #[.int .i64 x.op,.string x.s,.int .i64 x.n,.slice A x.l.length cx,.int .i64 x.line,.int .i64 y.op,.string y.s,.int .i64 y.n,.slice A2 y.l.length cy,.int .i64 y.line] 29)) [x,y] (.slice (some ⟨w5.heap.size,0,none⟩) 2 2):=by
 have e:(flatN [(x,.slice A x.l.length cx),(y,.slice A2 y.l.length cy)]).toArray=#[.int .i64 x.op,.string x.s,.int .i64 x.n,.slice A x.l.length cx,.int .i64 x.line,.int .i64 y.op,.string y.s,.int .i64 y.n,.slice A2 y.l.length cy,.int .i64 y.line]:=rfl
 have hb:=Blk.new w5 29 (flatN [(x,.slice A x.l.length cx),(y,.slice A2 y.l.length cy)]).toArray
 rw [e] at hb
 have g1:=h.lt.al (.cells #[.int .i64 x.op,.string x.s,.int .i64 x.n,.slice A x.l.length cx,.int .i64 x.line,.int .i64 y.op,.string y.s,.int .i64 y.n,.slice A2 y.l.length cy,.int .i64 y.line] 29)
 have g2:=h2.lt.al (.cells #[.int .i64 x.op,.string x.s,.int .i64 x.n,.slice A x.l.length cx,.int .i64 x.line,.int .i64 y.op,.string y.s,.int .i64 y.n,.slice A2 y.l.length cy,.int .i64 y.line] 29)
 generalize hW:w5.alloc (.cells #[.int .i64 x.op,.string x.s,.int .i64 x.n,.slice A x.l.length cx,.int .i64 x.line,.int .i64 y.op,.string y.s,.int .i64 y.n,.slice A2 y.l.length cy,.int .i64 y.line] 29)=W at *
 refine ⟨[(x,.slice A x.l.length cx),(y,.slice A2 y.l.length cy)],rfl,⟨rfl,.inr ⟨w5.heap.size,2,_,rfl,hB,hb,Nat.le_refl _,by decide,rfl,rfl⟩⟩,fun p hm => ?_⟩
 simp only [List.mem_cons,List.not_mem_nil,or_false] at hm
 rcases hm with rfl | rfl
 ·exact ⟨hok,d1,g1.weaken fun k _ hk=>⟨hk.1,fun e=>by
   have:w5.heap.size=k:=by simpa [Value.ownBlock] using e
   omega⟩⟩
 ·exact ⟨hok2,d2,g2.weaken fun k _ hk=>⟨hk.1,fun e=>by
   have:w5.heap.size=k:=by simpa [Value.ownBlock] using e
   omega⟩⟩
theorem lv_init (w:World) (rb:Nat):LvJ w rb ((((((((w.alloc (.cells zeroN 29)).alloc (.cells #[.string ⟨#[124,124]⟩] 9)).alloc (.cells #[.string ⟨#[38,38]⟩] 9)).alloc (.cells #[.string ⟨#[61,61,61]⟩,.string ⟨#[33,61,61]⟩] 9)).alloc (.cells #[.string ⟨#[60]⟩,.string ⟨#[60,61]⟩] 9)).alloc (.cells #[.string ⟨#[43]⟩,.string ⟨#[45]⟩] 9)).alloc (.cells #[.string ⟨#[42]⟩] 9)).alloc (.cells #[.slice (some ⟨w.heap.size+1,0,none⟩) 1 1,.slice (some ⟨w.heap.size+1+1,0,none⟩) 1 1,.slice (some ⟨w.heap.size+1+1+1,0,none⟩) 2 2,.slice (some ⟨w.heap.size+1+1+1+1,0,none⟩) 2 2,.slice (some ⟨w.heap.size+1+1+1+1+1,0,none⟩) 2 2,.slice (some ⟨w.heap.size+1+1+1+1+1+1,0,none⟩) 1 1] 149)):=by
 have hsz:((((((((w.alloc (.cells zeroN 29)).alloc (.cells #[.string ⟨#[124,124]⟩] 9)).alloc (.cells #[.string ⟨#[38,38]⟩] 9)).alloc (.cells #[.string ⟨#[61,61,61]⟩,.string ⟨#[33,61,61]⟩] 9)).alloc (.cells #[.string ⟨#[60]⟩,.string ⟨#[60,61]⟩] 9)).alloc (.cells #[.string ⟨#[43]⟩,.string ⟨#[45]⟩] 9)).alloc (.cells #[.string ⟨#[42]⟩] 9)).alloc (.cells #[.slice (some ⟨w.heap.size+1,0,none⟩) 1 1,.slice (some ⟨w.heap.size+1+1,0,none⟩) 1 1,.slice (some ⟨w.heap.size+1+1+1,0,none⟩) 2 2,.slice (some ⟨w.heap.size+1+1+1+1,0,none⟩) 2 2,.slice (some ⟨w.heap.size+1+1+1+1+1,0,none⟩) 2 2,.slice (some ⟨w.heap.size+1+1+1+1+1+1,0,none⟩) 1 1] 149)).heap.size=w.heap.size+1+1+1+1+1+1+1+1:=by simp
 have hal : ∀ k,((((((((w.alloc (.cells zeroN 29)).alloc (.cells #[.string ⟨#[124,124]⟩] 9)).alloc (.cells #[.string ⟨#[38,38]⟩] 9)).alloc (.cells #[.string ⟨#[61,61,61]⟩,.string ⟨#[33,61,61]⟩] 9)).alloc (.cells #[.string ⟨#[60]⟩,.string ⟨#[60,61]⟩] 9)).alloc (.cells #[.string ⟨#[43]⟩,.string ⟨#[45]⟩] 9)).alloc (.cells #[.string ⟨#[42]⟩] 9)).alloc (.cells #[.slice (some ⟨w.heap.size+1,0,none⟩) 1 1,.slice (some ⟨w.heap.size+1+1,0,none⟩) 1 1,.slice (some ⟨w.heap.size+1+1+1,0,none⟩) 2 2,.slice (some ⟨w.heap.size+1+1+1+1,0,none⟩) 2 2,.slice (some ⟨w.heap.size+1+1+1+1+1,0,none⟩) 2 2,.slice (some ⟨w.heap.size+1+1+1+1+1+1,0,none⟩) 1 1] 149)).heap[k]? = if k=w.heap.size then some (.cells zeroN 29) else if k=w.heap.size+1 then some (.cells #[.string ⟨#[124,124]⟩] 9) else if k=w.heap.size+1+1 then some (.cells #[.string ⟨#[38,38]⟩] 9) else if k=w.heap.size+1+1+1 then some (.cells #[.string ⟨#[61,61,61]⟩,.string ⟨#[33,61,61]⟩] 9) else if k=w.heap.size+1+1+1+1 then some (.cells #[.string ⟨#[60]⟩,.string ⟨#[60,61]⟩] 9) else if k=w.heap.size+1+1+1+1+1 then some (.cells #[.string ⟨#[43]⟩,.string ⟨#[45]⟩] 9) else if k=w.heap.size+1+1+1+1+1+1 then some (.cells #[.string ⟨#[42]⟩] 9) else if k=w.heap.size+1+1+1+1+1+1+1 then some (.cells #[.slice (some ⟨w.heap.size+1,0,none⟩) 1 1,.slice (some ⟨w.heap.size+1+1,0,none⟩) 1 1,.slice (some ⟨w.heap.size+1+1+1,0,none⟩) 2 2,.slice (some ⟨w.heap.size+1+1+1+1,0,none⟩) 2 2,.slice (some ⟨w.heap.size+1+1+1+1+1,0,none⟩) 2 2,.slice (some ⟨w.heap.size+1+1+1+1+1+1,0,none⟩) 1 1] 149) else w.heap[k]? := fun k=>alloc8 w _ _ _ _ _ _ _ _ k
 refine ⟨?_,?_,?_,?_⟩
 ·show _=_
  rw [hal,if_pos rfl]
 ·show _=_
  rw [hal,if_neg (by omega),if_neg (by omega),if_neg (by omega),if_neg (by omega),if_neg (by omega),if_neg (by omega),if_neg (by omega),if_pos rfl]
 ·intro n hn
  refine txs_of (t:=9) ?_ (by match n,hn with | 0,_=>decide | 1,_=>decide | 2,_=>decide | 3,_=>decide | 4,_=>decide | 5,_=>decide)
  rw [hal]
  match n,hn with
  | 0,_=>simp (disch:=omega) only [if_neg];rfl
  | 1,_=>simp (disch:=omega) only [if_neg];rfl
  | 2,_=>simp (disch:=omega) only [if_neg];rfl
  | 3,_=>simp (disch:=omega) only [if_neg];rfl
  | 4,_=>simp (disch:=omega) only [if_neg];rfl
  | 5,_=>simp (disch:=omega) only [if_neg];rfl
 ·exact TurnR.al (TurnR.al (TurnR.al (TurnR.al (TurnR.al (TurnR.al (TurnR.al (alloc_turn w rb _) _) _) _) _) _) _) _
set_option maxRecDepth 100000 in
set_option maxHeartbeats 4000000 in
theorem level_step {rb last f:Nat} (R:AllR rb last f) (n:Nat) (w:World) (l:List Tl) (y:Except (Int × Int) ((Tree × Bool) × List Tl)) (hn6:n≤6) (h:St w rb last l) (hy:levelS (fns last f) n l=some y) :
  Calls Tryz.prog 81 #[rdP rb,.int .i64 (n:Nat)] w (PostS rb last w (PairV w.heap.size) y):=by
 have hlt:=h.lt
 have HS0:=Lib.hid ((((((((h.alloc (.cells zeroN 29)).alloc (.cells #[.string ⟨#[124,124]⟩] 9)).alloc (.cells #[.string ⟨#[38,38]⟩] 9)).alloc (.cells #[.string ⟨#[61,61,61]⟩,.string ⟨#[33,61,61]⟩] 9)).alloc (.cells #[.string ⟨#[60]⟩,.string ⟨#[60,61]⟩] 9)).alloc (.cells #[.string ⟨#[43]⟩,.string ⟨#[45]⟩] 9)).alloc (.cells #[.string ⟨#[42]⟩] 9)).alloc (.cells #[.slice (some ⟨w.heap.size+1,0,none⟩) 1 1,.slice (some ⟨w.heap.size+1+1,0,none⟩) 1 1,.slice (some ⟨w.heap.size+1+1+1,0,none⟩) 2 2,.slice (some ⟨w.heap.size+1+1+1+1,0,none⟩) 2 2,.slice (some ⟨w.heap.size+1+1+1+1+1,0,none⟩) 2 2,.slice (some ⟨w.heap.size+1+1+1+1+1+1,0,none⟩) 1 1] 149))
 have HL0:=Lib.hid (lv_init w rb)
 have hz0:=HL0.out.size
 unfold levelS at hy
 clear h
 go_enter Tryz.func81,Tryz.ntmps81
 by_cases h6:n=6
 ·subst h6
  rw [if_pos rfl] at hy
  have hb6:(((6:Nat):Int)==6)=true:=rfl
  have hk0:=HL0.out.bx
  have HT0:=Lib.hid HL0.out.tn
  have hz1:w.heap.size+1≤((((((((w.alloc (.cells zeroN 29)).alloc (.cells #[.string ⟨#[124,124]⟩] 9)).alloc (.cells #[.string ⟨#[38,38]⟩] 9)).alloc (.cells #[.string ⟨#[61,61,61]⟩,.string ⟨#[33,61,61]⟩] 9)).alloc (.cells #[.string ⟨#[60]⟩,.string ⟨#[60,61]⟩] 9)).alloc (.cells #[.string ⟨#[43]⟩,.string ⟨#[45]⟩] 9)).alloc (.cells #[.string ⟨#[42]⟩] 9)).alloc (.cells #[.slice (some ⟨w.heap.size+1,0,none⟩) 1 1,.slice (some ⟨w.heap.size+1+1,0,none⟩) 1 1,.slice (some ⟨w.heap.size+1+1+1,0,none⟩) 2 2,.slice (some ⟨w.heap.size+1+1+1+1,0,none⟩) 2 2,.slice (some ⟨w.heap.size+1+1+1+1+1,0,none⟩) 2 2,.slice (some ⟨w.heap.size+1+1+1+1+1+1,0,none⟩) 1 1] 149)).heap.size:=by omega
  match y,hy with
  | .error (c,ln),hy =>
   have HM:=Lib.hid hy
   clear hy
   go_wp2_with fail
   refine (R.signed _ _ _ HS0.out HM.out).mono ?_
   rintro e w9 ⟨rfl,ht⟩
   exact ⟨rfl,PostS.err rfl (TurnR.trans HT0.out ht)⟩
  | .ok ((x,b),r),hy =>
   have HM:=Lib.hid hy
   clear hy
   go_wp2_with fail
   refine (R.signed _ _ _ HS0.out HM.out).mono ?_
   rintro e w9 ⟨⟨_,rfl,_,rfl,hok,d,sl,rfl,htr⟩,hs,ht⟩
   obtain ⟨A,cx,rfl⟩:=htr.form
   have HOK:=Lib.hid hok
   have HTX:=Lib.hid (htr.weaken (B':=w.heap.size+1) (by omega))
   clear hok htr
   have HS1:=Lib.hid hs
   have HT1:=Lib.hid (TurnR.trans HT0.out ht)
   have hk1:=hk0.tr ht (by omega)
   have hlhk1:=hk1.lt
   clear ht hs hk0
   obtain ⟨⟨b0,b1,b2,b3,b4⟩,g0,g1,g2,g3,g4⟩:=hk1.five
   have HK:=Lib.hid hk1
   clear hk1
   go_wp2
   refine ret_pair (HK.out.set5 _ _ _ _ _) rfl rfl rfl rfl ?_
   obtain ⟨q1,q2,q3⟩:=fin_old hlt HS1.out HT1.out HOK.out HTX.out
   exact PostS.ok rfl ⟨_,rfl,q3⟩ q1 q2
 ·have hb6:((n:Int)==6)=false:=by simpa using (by omega:(n:Int)≠6)
  rw [if_neg h6] at hy
  have hi0:(0:Int)≤(n:Int):=Int.natCast_nonneg n
  have hi6:(n:Int)<6:=by omega
  have RL:=Lib.hid (R.level (n+1))
  rcases bind_some hy with ⟨⟨c,ln⟩,h1,rfl⟩ | ⟨⟨x0,b0⟩,r0,h1,hy2⟩
  ·have HM:=Lib.hid h1
   clear h1 hy
   go_wp2_with fail
   refine (RL.out _ _ _ (by omega) HS0.out HM.out).mono ?_
   rintro e w9 ⟨rfl,ht⟩
   exact ⟨rfl,PostS.err rfl (TurnR.trans HL0.out.tn ht)⟩
  have HM:=Lib.hid h1
  clear h1 hy
  go_wp2_with fail
  refine (RL.out _ _ _ (by omega) HS0.out HM.out).mono ?_
  rintro e w1 ⟨⟨_,rfl,_,rfl,hok,d0,sl,rfl,htr⟩,hs,ht⟩
  obtain ⟨A0,c0,rfl⟩:=htr.form
  have hL1:=HL0.out.tr hlt ht
  have hz1:=hL1.size
  have htr1:TrP (fun k=>w.heap.size+8≤k∧k≠w1.heap.size) (w1.alloc (.cells #[.int .i64 x0.op,.string x0.s,.int .i64 x0.n,.slice A0 x0.l.length c0,.int .i64 x0.line] 29)) d0 x0.l (.slice A0 x0.l.length c0):=(htr.lt.weaken (fun k _ hk=>⟨by simp at hk;omega,by have:=hk.2;omega⟩)).al _
  have hL2:LvJ w rb (w1.alloc (.cells #[.int .i64 x0.op,.string x0.s,.int .i64 x0.n,.slice A0 x0.l.length c0,.int .i64 x0.line] 29)):=hL1.high (Turn.alloc (Turn.refl _ _) _)
  have hx2:=Blk.new w1 29 #[.int .i64 x0.op,.string x0.s,.int .i64 x0.n,.slice A0 x0.l.length c0,.int .i64 x0.line]
  have H0:=Lib.hid (And.intro hok (And.intro htr1 (And.intro (hs.alloc (.cells #[.int .i64 x0.op,.string x0.s,.int .i64 x0.n,.slice A0 x0.l.length c0,.int .i64 x0.line] 29)) (And.intro hL2 hx2))))
  have HY:=Lib.hid hy2
  clear hok htr hs ht htr1 hL2 hx2 hL1 hy2
  go_wp2
  have hPK:¬ (fun k=>w.heap.size+8≤k∧k≠w1.heap.size) rb:=fun h=>by have:=h.1;omega
  go_loopg [8] f (fun g v wr => ∃ (x:Tree) (A:Option Addr) (c d:Nat) (b:Bool) (l2:List Tl),g≤f∧v = .bool b∧x.ok∧TrP (fun k=>w.heap.size+8≤k∧k≠w1.heap.size) wr d x.l (.slice A x.l.length c)∧St wr rb last l2∧LvJ w rb wr∧Blk wr w1.heap.size 29 #[.int .i64 x.op,.string x.s,.int .i64 x.n,.slice A x.l.length c,.int .i64 x.line]∧(fns last g).more n x b l2=some y)
  case atStart=>exact ⟨x0,A0,c0,d0,b0,r0,Nat.le_refl _,rfl,H0.out.1,H0.out.2.1,H0.out.2.2.1,H0.out.2.2.2.1,H0.out.2.2.2.2,HY.out⟩
  case round =>
   obtain ⟨x,A,cx,d,b,l2,hn,rfl,hok,htr,hst,hL,hxb,hy2⟩:=hrel
   clear H0 HY HM
   cases gk with
   | zero=>cases hy2
   | succ g =>
    have hy:moreS last (fns last g) n x b l2=some y:=hy2
    clear hy2
    unfold moreS at hy
    have LF:=Lib.hid (leFns_le last (show g≤f by omega))
    have HS1:=Lib.hid hst
    have HL1:=Lib.hid hL
    have HOK:=Lib.hid hok
    have HTX:=Lib.hid htr
    have HXB:=Lib.hid hxb
    have hcell:wr.cell? ⟨w.heap.size+1+1+1+1+1+1+1,(n:Nat),none⟩=_:=hL.at (by omega:n<6)
    have hn5:n<6:=by omega
    have SC:Hid (∀ w9,TurnR rb wr.drew w9→w9.cell? ⟨w.heap.size+1+1+1+1+1+1+1,(n:Nat),none⟩=some (.slice (some ⟨w.heap.size+1+n,0,none⟩) (signsX n).length (signsX n).length)):=Lib.hid fun w9 h9=>(hL.dr.tr hlt h9).at hn5
    have h40:TurnR rb wr.drew wr.drew:=Turn.refl _ _
    have HTS:=Lib.hid (hL.dr.txs n hn5)
    have hxb1:=hxb
    clear hst hL hok htr hxb
    cases ha:atF (signsN n) l2 with
    | false =>
     rw [ha] at hy
     obtain rfl:=some_ok (show Rd.ok (x,b) l2=some y from hy)
     clear hy
     go_wp2
     go_region_held3 (fun w9=>w9.cell? ⟨w.heap.size+1+1+1+1+1+1+1,(n:Nat),none⟩=some (.slice (some ⟨w.heap.size+1+n,0,none⟩) (signsX n).length (signsX n).length)) ((refine SC.out _ ?_;repeat' (first | with_reducible assumption))) (first
      | (go_at_call 64;refine (isAt_calls _ rb last l2 HS1.out.dr _ _ HTS.out).mono ?_;rintro e w4 ⟨rfl,hb⟩;rw [signsX_bl,ha];have ht4:TurnR rb wr.drew w4:=turn_below hb))
     have HS4:=Lib.hid (HS1.out.dr.below hb)
     have HL4:=Lib.hid (HL1.out.dr.tr hlt ht4)
     have hx4:=HXB.out.dr.tr ht4 (by omega)
     have HX4:=Lib.hid ((TrP.dr HTX.out).tr ht4 hPK)
     clear hb ht4
     have hk4:=HL4.out.bx
     obtain ⟨⟨b0,b1,b2,b3,b4⟩,g0,g1,g2,g3,g4⟩:=hk4.five
     obtain ⟨⟨a0,a1,a2,a3,a4⟩,-⟩:=hx4.five
     have HK:=Lib.hid hk4
     clear hk4 hx4
     go_wp2
     refine ret_pair (HK.out.set5 _ _ _ _ _) rfl rfl rfl rfl ?_
     obtain ⟨q1,q2,q3⟩:=fin_old hlt HS4.out HL4.out.tn HOK.out (HX4.out.weaken fun k _ hk=>by have:=hk.1;omega)
     exact PostS.ok rfl ⟨_,rfl,q3⟩ q1 q2
    | true =>
     rw [ha,if_pos rfl] at hy
     go_wp2
     go_region_held3 (fun w9=>w9.cell? ⟨w.heap.size+1+1+1+1+1+1+1,(n:Nat),none⟩=some (.slice (some ⟨w.heap.size+1+n,0,none⟩) (signsX n).length (signsX n).length)) ((refine SC.out _ ?_;repeat' (first | with_reducible assumption))) (first
      | (go_at_call 64;refine (isAt_calls _ rb last l2 HS1.out.dr _ _ HTS.out).mono ?_;rintro e w4 ⟨rfl,hb⟩;rw [signsX_bl,ha];have ht4:TurnR rb wr.drew w4:=turn_below hb))
     have HS4:=Lib.hid (HS1.out.dr.below hb)
     have HL4:=Lib.hid (HL1.out.dr.tr hlt ht4)
     have hx4:=HXB.out.dr.tr ht4 (by omega)
     have HX4:=Lib.hid ((TrP.dr HTX.out).tr ht4 hPK)
     clear hb ht4
     go_wp2_with fail
     refine (skip_calls _ rb last l2 HS4.out).mono ?_
     rintro e w7 ⟨rfl,hs,ht⟩
     unfold tokV
     have HS8:=Lib.hid (hs.alloc (.cells #[.int .i64 (hereF last l2).t.kind,.string ⟨(hereF last l2).t.s.toArray⟩,.int .i64 (hereF last l2).t.n,.int .i64 (hereF last l2).line,.bool (hereF last l2).nl] 37))
     have hL7:=HL4.out.tr hlt ht
     have hz7:=hL7.size
     have HL8:=Lib.hid (hL7.high (Turn.alloc (Turn.refl _ _) (.cells #[.int .i64 (hereF last l2).t.kind,.string ⟨(hereF last l2).t.s.toArray⟩,.int .i64 (hereF last l2).t.n,.int .i64 (hereF last l2).line,.bool (hereF last l2).nl] 37)))
     have hx8:=(hx4.tr ht (by omega)).alloc (.cells #[.int .i64 (hereF last l2).t.kind,.string ⟨(hereF last l2).t.s.toArray⟩,.int .i64 (hereF last l2).t.n,.int .i64 (hereF last l2).line,.bool (hereF last l2).nl] 37)
     have htb8:=Blk.new w7 37 #[.int .i64 (hereF last l2).t.kind,.string ⟨(hereF last l2).t.s.toArray⟩,.int .i64 (hereF last l2).t.n,.int .i64 (hereF last l2).line,.bool (hereF last l2).nl]
     have HX8:=Lib.hid ((HX4.out.tr ht hPK).al (.cells #[.int .i64 (hereF last l2).t.kind,.string ⟨(hereF last l2).t.s.toArray⟩,.int .i64 (hereF last l2).t.n,.int .i64 (hereF last l2).line,.bool (hereF last l2).nl] 37))
     have hzx:=(hx4.tr ht (by omega)).lt
     clear hs ht hL7 hx4
     rcases bind_some hy with ⟨⟨c,ln⟩,h1,rfl⟩ | ⟨⟨z,bz⟩,r,h1,h2⟩
     ·have HM:=Lib.hid h1
      clear h1 hy
      go_wp2_with fail
      refine (RL.out _ _ _ (by omega) HS8.out (LF.out.level _ _ _ HM.out)).mono ?_
      rintro e w9 ⟨rfl,ht⟩
      exact ⟨rfl,PostS.err rfl (TurnR.trans HL8.out.tn ht)⟩
     have HM:=Lib.hid h1
     have HY:=Lib.hid h2
     clear h1 hy h2
     go_wp2_with fail
     refine (RL.out _ _ _ (by omega) HS8.out (LF.out.level _ _ _ HM.out)).mono ?_
     rintro e w9 ⟨⟨_,rfl,_,rfl,hokz,dz,sl,rfl,htrz⟩,hs,ht⟩
     obtain ⟨Az,cz,rfl⟩:=htrz.form
     have HOKZ:=Lib.hid hokz
     have hz9:=ht.size
     rw [World.size_alloc] at hz9 htrz
     have hL9:=HL8.out.tr hlt ht
     have hx9:=(hx8.tr ht (by omega)).alloc (.cells #[.int .i64 z.op,.string z.s,.int .i64 z.n,.slice Az z.l.length cz,.int .i64 z.line] 29)
     have htb9:=(htb8.tr ht (by omega)).alloc (.cells #[.int .i64 z.op,.string z.s,.int .i64 z.n,.slice Az z.l.length cz,.int .i64 z.line] 29)
     have hzb9:=Blk.new w9 29 #[.int .i64 z.op,.string z.s,.int .i64 z.n,.slice Az z.l.length cz,.int .i64 z.line]
     have HX9:=Lib.hid ((HX8.out.tr ht hPK).al (.cells #[.int .i64 z.op,.string z.s,.int .i64 z.n,.slice Az z.l.length cz,.int .i64 z.line] 29))
     have HZ9:=Lib.hid (htrz.al (.cells #[.int .i64 z.op,.string z.s,.int .i64 z.n,.slice Az z.l.length cz,.int .i64 z.line] 29))
     have HS9:=Lib.hid (hs.alloc (.cells #[.int .i64 z.op,.string z.s,.int .i64 z.n,.slice Az z.l.length cz,.int .i64 z.line] 29))
     have HL9:=Lib.hid (hL9.high (Turn.alloc (Turn.refl _ _) (.cells #[.int .i64 z.op,.string z.s,.int .i64 z.n,.slice Az z.l.length cz,.int .i64 z.line] 29)))
     obtain ⟨⟨a0,a1,a2,a3,a4⟩,g0,g1,g2,g3,g4⟩:=hx9.five
     obtain ⟨⟨e0,e1,e2,e3,e4⟩,-⟩:=htb9.five
     obtain ⟨⟨p0,p1,p2,p3,p4⟩,-⟩:=hzb9.five
     have hrow:RowP (fun k=>(w.heap.size+8≤k∧k≠w1.heap.size)∧k≠w9.heap.size+1+1) (w.heap.size+8) ((w9.alloc (.cells #[.int .i64 z.op,.string z.s,.int .i64 z.n,.slice Az z.l.length cz,.int .i64 z.line] 29)).alloc (.cells #[.int .i64 x.op,.string x.s,.int .i64 x.n,.slice A x.l.length cx,.int .i64 x.line,.int .i64 z.op,.string z.s,.int .i64 z.n,.slice Az z.l.length cz,.int .i64 z.line] 29)) [x,z] (.slice (some ⟨w9.heap.size+1,0,none⟩) 2 2):=by
      have h:=RowP.two (Bk:=(fun k=>(w.heap.size+8≤k∧k≠w1.heap.size)∧k≠w9.heap.size+1+1)) (B:=w.heap.size+8) (by simp;omega) HOK.out (HX9.out.lt.weaken fun k _ hk=>⟨hk.1,by have:=hk.2;simp at this;omega⟩) HOKZ.out (HZ9.out.lt.weaken fun k _ hk=>⟨⟨by have:=hk.1;omega,by have:=hk.1;omega⟩,by have:=hk.2;simp at this;omega⟩)
      rw [World.size_alloc] at h
      exact h
     have HR9:=Lib.hid hrow
     have HXB9:=Lib.hid hx9
     have hsl:(hereF last l2).t.s.length≤65536:=by
      cases hl:l2 with
      | nil=>exact Nat.zero_le _
      | cons t l3=>have:=HS4.out.ok (t:=t) (by rw [hl];simp);simpa [hereF,hl] using this.s
     have HSL:=Lib.hid hsl
     have hw1:w1.heap.size≠w9.heap.size+1+1:=by omega
     have hw2:w9.heap.size+1+1≠w1.heap.size:=by omega
     have hw3:w1.heap.size<w9.heap.size:=by omega
     clear hs ht hL9 hx8 htb8 hokz htrz hx9 htb9 hzb9 hrow hsl
     by_cases h0:n=0
     ·have hb0:((n:Int)==0)=true:=by rw [h0];rfl
      have HJ:Hid ((fns last g).more n (nd 22 [] [x,z] x.line) false r=some y):=Lib.hid (by have h:=HY.out;simpa [joinT,h0] using h)
      have HH:=Lib.hid (lv_fin (acc:=[x,z]) (cap:=2) hlt (by omega) (by omega) (by omega) (by omega) (by simp) (HR9.out.al (.cells #[.int .i64 22,.string ⟨#[]⟩,.int .i64 0,.slice (some ⟨w9.heap.size+1,0,none⟩) 2 2,.int .i64 x.line] 29)) ((HS9.out.alloc (.cells #[.int .i64 x.op,.string x.s,.int .i64 x.n,.slice A x.l.length cx,.int .i64 x.line,.int .i64 z.op,.string z.s,.int .i64 z.n,.slice Az z.l.length cz,.int .i64 z.line] 29)).alloc (.cells #[.int .i64 22,.string ⟨#[]⟩,.int .i64 0,.slice (some ⟨w9.heap.size+1,0,none⟩) 2 2,.int .i64 x.line] 29)) (HL9.out.high (Turn.alloc (Turn.alloc (Turn.refl _ _) (.cells #[.int .i64 x.op,.string x.s,.int .i64 x.n,.slice A x.l.length cx,.int .i64 x.line,.int .i64 z.op,.string z.s,.int .i64 z.n,.slice Az z.l.length cz,.int .i64 z.line] 29)) (.cells #[.int .i64 22,.string ⟨#[]⟩,.int .i64 0,.slice (some ⟨w9.heap.size+1,0,none⟩) 2 2,.int .i64 x.line] 29))) ((HXB9.out.alloc (.cells #[.int .i64 x.op,.string x.s,.int .i64 x.n,.slice A x.l.length cx,.int .i64 x.line,.int .i64 z.op,.string z.s,.int .i64 z.n,.slice Az z.l.length cz,.int .i64 z.line] 29)).alloc (.cells #[.int .i64 22,.string ⟨#[]⟩,.int .i64 0,.slice (some ⟨w9.heap.size+1,0,none⟩) 2 2,.int .i64 x.line] 29)) (.int .i64 22) (.string ⟨([]:List UInt8).toArray⟩) (.int .i64 0) (.slice (some ⟨w9.heap.size+1,0,none⟩) 2 2) (.int .i64 x.line))
      obtain ⟨⟨c0_,c1_,c2_,c3_,c4_⟩,r0_,r1_,r2_,r3_,r4_⟩:=(((HXB9.out.alloc (.cells #[.int .i64 x.op,.string x.s,.int .i64 x.n,.slice A x.l.length cx,.int .i64 x.line,.int .i64 z.op,.string z.s,.int .i64 z.n,.slice Az z.l.length cz,.int .i64 z.line] 29)).alloc (.cells #[.int .i64 22,.string ⟨#[]⟩,.int .i64 0,.slice (some ⟨w9.heap.size+1,0,none⟩) 2 2,.int .i64 x.line] 29))).five
      clear h0
      go_wp2
      go_roundg g
      case measure=>omega
      case rel =>
       obtain ⟨d9,k1,k2,k3,k4⟩:=HH.out
       exact ⟨nd 22 [] [x,z] x.line,some ⟨w9.heap.size+1,0,none⟩,2,d9,false,r,by omega,rfl,nd_ok (by decide) (by decide),k1,k2,k3,k4,HJ.out⟩
     ·have hb0:((n:Int)==0)=false:=by simpa using h0
      by_cases h1:n=1
      ·have hb1:((n:Int)==1)=true:=by rw [h1];rfl
       have HJ:Hid ((fns last g).more n (nd 21 [] [x,z] x.line) false r=some y):=Lib.hid (by have h:=HY.out;simpa [joinT,h1] using h)
       have HH:=Lib.hid (lv_fin (acc:=[x,z]) (cap:=2) hlt (by omega) (by omega) (by omega) (by omega) (by simp) (HR9.out.al (.cells #[.int .i64 21,.string ⟨#[]⟩,.int .i64 0,.slice (some ⟨w9.heap.size+1,0,none⟩) 2 2,.int .i64 x.line] 29)) ((HS9.out.alloc (.cells #[.int .i64 x.op,.string x.s,.int .i64 x.n,.slice A x.l.length cx,.int .i64 x.line,.int .i64 z.op,.string z.s,.int .i64 z.n,.slice Az z.l.length cz,.int .i64 z.line] 29)).alloc (.cells #[.int .i64 21,.string ⟨#[]⟩,.int .i64 0,.slice (some ⟨w9.heap.size+1,0,none⟩) 2 2,.int .i64 x.line] 29)) (HL9.out.high (Turn.alloc (Turn.alloc (Turn.refl _ _) (.cells #[.int .i64 x.op,.string x.s,.int .i64 x.n,.slice A x.l.length cx,.int .i64 x.line,.int .i64 z.op,.string z.s,.int .i64 z.n,.slice Az z.l.length cz,.int .i64 z.line] 29)) (.cells #[.int .i64 21,.string ⟨#[]⟩,.int .i64 0,.slice (some ⟨w9.heap.size+1,0,none⟩) 2 2,.int .i64 x.line] 29))) ((HXB9.out.alloc (.cells #[.int .i64 x.op,.string x.s,.int .i64 x.n,.slice A x.l.length cx,.int .i64 x.line,.int .i64 z.op,.string z.s,.int .i64 z.n,.slice Az z.l.length cz,.int .i64 z.line] 29)).alloc (.cells #[.int .i64 21,.string ⟨#[]⟩,.int .i64 0,.slice (some ⟨w9.heap.size+1,0,none⟩) 2 2,.int .i64 x.line] 29)) (.int .i64 21) (.string ⟨([]:List UInt8).toArray⟩) (.int .i64 0) (.slice (some ⟨w9.heap.size+1,0,none⟩) 2 2) (.int .i64 x.line))
       obtain ⟨⟨c0_,c1_,c2_,c3_,c4_⟩,r0_,r1_,r2_,r3_,r4_⟩:=(((HXB9.out.alloc (.cells #[.int .i64 x.op,.string x.s,.int .i64 x.n,.slice A x.l.length cx,.int .i64 x.line,.int .i64 z.op,.string z.s,.int .i64 z.n,.slice Az z.l.length cz,.int .i64 z.line] 29)).alloc (.cells #[.int .i64 21,.string ⟨#[]⟩,.int .i64 0,.slice (some ⟨w9.heap.size+1,0,none⟩) 2 2,.int .i64 x.line] 29))).five
       clear h1
       go_wp2
       go_roundg g
       case measure=>omega
       case rel =>
        obtain ⟨d9,k1,k2,k3,k4⟩:=HH.out
        exact ⟨nd 21 [] [x,z] x.line,some ⟨w9.heap.size+1,0,none⟩,2,d9,false,r,by omega,rfl,nd_ok (by decide) (by decide),k1,k2,k3,k4,HJ.out⟩
      ·have hle:¬ n≤1:=by omega
       have hb1:((n:Int)==1)=false:=by simpa using (by omega:(n:Int)≠1)
       have HJ:Hid ((fns last g).more n (nd 18 (hereF last l2).t.s [x,z] x.line) false r=some y):=Lib.hid (by have h:=HY.out;simpa [joinT,h0,h1,hle] using h)
       have HH:=Lib.hid (lv_fin (acc:=[x,z]) (cap:=2) hlt (by omega) (by omega) (by omega) (by omega) (by simp) (HR9.out.al (.cells #[.int .i64 18,.string ⟨(hereF last l2).t.s.toArray⟩,.int .i64 0,.slice (some ⟨w9.heap.size+1,0,none⟩) 2 2,.int .i64 x.line] 29)) ((HS9.out.alloc (.cells #[.int .i64 x.op,.string x.s,.int .i64 x.n,.slice A x.l.length cx,.int .i64 x.line,.int .i64 z.op,.string z.s,.int .i64 z.n,.slice Az z.l.length cz,.int .i64 z.line] 29)).alloc (.cells #[.int .i64 18,.string ⟨(hereF last l2).t.s.toArray⟩,.int .i64 0,.slice (some ⟨w9.heap.size+1,0,none⟩) 2 2,.int .i64 x.line] 29)) (HL9.out.high (Turn.alloc (Turn.alloc (Turn.refl _ _) (.cells #[.int .i64 x.op,.string x.s,.int .i64 x.n,.slice A x.l.length cx,.int .i64 x.line,.int .i64 z.op,.string z.s,.int .i64 z.n,.slice Az z.l.length cz,.int .i64 z.line] 29)) (.cells #[.int .i64 18,.string ⟨(hereF last l2).t.s.toArray⟩,.int .i64 0,.slice (some ⟨w9.heap.size+1,0,none⟩) 2 2,.int .i64 x.line] 29))) ((HXB9.out.alloc (.cells #[.int .i64 x.op,.string x.s,.int .i64 x.n,.slice A x.l.length cx,.int .i64 x.line,.int .i64 z.op,.string z.s,.int .i64 z.n,.slice Az z.l.length cz,.int .i64 z.line] 29)).alloc (.cells #[.int .i64 18,.string ⟨(hereF last l2).t.s.toArray⟩,.int .i64 0,.slice (some ⟨w9.heap.size+1,0,none⟩) 2 2,.int .i64 x.line] 29)) (.int .i64 18) (.string ⟨((hereF last l2).t.s:List UInt8).toArray⟩) (.int .i64 0) (.slice (some ⟨w9.heap.size+1,0,none⟩) 2 2) (.int .i64 x.line))
       obtain ⟨⟨c0_,c1_,c2_,c3_,c4_⟩,r0_,r1_,r2_,r3_,r4_⟩:=(((HXB9.out.alloc (.cells #[.int .i64 x.op,.string x.s,.int .i64 x.n,.slice A x.l.length cx,.int .i64 x.line,.int .i64 z.op,.string z.s,.int .i64 z.n,.slice Az z.l.length cz,.int .i64 z.line] 29)).alloc (.cells #[.int .i64 18,.string ⟨(hereF last l2).t.s.toArray⟩,.int .i64 0,.slice (some ⟨w9.heap.size+1,0,none⟩) 2 2,.int .i64 x.line] 29))).five
       go_wp2
       go_roundg g
       case measure=>omega
       case rel =>
        obtain ⟨d9,k1,k2,k3,k4⟩:=HH.out
        exact ⟨nd 18 (hereF last l2).t.s [x,z] x.line,some ⟨w9.heap.size+1,0,none⟩,2,d9,false,r,by omega,rfl,nd_ok (by have:=HSL.out;simp only [maxLen];omega) (by decide),k1,k2,k3,k4,HJ.out⟩
end
end Go.Proofs.YtjjdmiaonkailaaGreatDoor
