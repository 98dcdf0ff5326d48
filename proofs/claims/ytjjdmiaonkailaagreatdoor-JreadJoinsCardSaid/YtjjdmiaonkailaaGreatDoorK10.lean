/- Walks and plain laws, packed: IsWord, Names, RlexB. -/
import Derived.Test.YtjjdmiaonkailaaGreatDoorK09
import Derived.Shelf.Abstract
import Derived.Shelf.RegionOpen
import Derived.Test.YtjjdmiaonkailaaGreatDoorK05
import Derived.Deep.QuietTactic
import Derived.BigQuiet
import Derived.Lib.QuietBelow
import Derived.Lib.Fields
import Derived.Test.YtjjdmiaonkailaaGreatDoorK04
namespace Go.Proofs.YtjjdmiaonkailaaGreatDoor
section
open Go.RowKit Go.Shelf
attribute [local go_sem] Oper.semAt_some
theorem VMap.ext {P:Program} {k:TypeId} {w:World} {b n:Nat} {f g:List UInt8→Option Value} (h:VMap P k w b n f) (e : ∀ x,f x=g x):VMap P k w b n g:=by
 obtain rfl:f=g:=funext e
 exact h
theorem VMap.look1 {P:Program} {k:TypeId} {w:World} {b n:Nat} {f:List UInt8→Option Value} (h:VMap P k w b n f) (hu:P.underlying k=some .string) {t e:TypeId} (ht:P.underlying t=some (.map k e)) {z:Value} (hz:(zeroValue e).run P w = .ok z w)
  {s:ByteArray} (hs:s.size≤maxLen):(Instr.lookup t (.map (some b)) (.string s) false).run P w = .ok ((f s.data.toList).getD z) w:=by
 obtain ⟨D,h1,h2,h3⟩:=h
 obtain ⟨v,ps,hrun,hv⟩:=h1.lookup (Maps.string_keyed hu) ht hz (zd := .held z) (zp:=[]) rfl (Go.WideMaps.keyOf_string_mk hu hs)
 rw [hrun]
 cases hf:f s.data.toList with
 | none =>
  have:=Maps.atKey_of_not_has (D:=D) (k := .string s.data.toList) (by rw [h2,hf];rfl) (.held z)
  rw [this] at hv
  simp only [heldR,Option.some.injEq,Prod.mk.injEq,DataW.held.injEq] at hv
  rw [hv.1]
  rfl
 | some u =>
  rw [h3 _ _ hf] at hv
  simp only [heldR,Option.some.injEq,Prod.mk.injEq,DataW.held.injEq] at hv
  rw [hv.1]
  rfl
def seenF (k:Nat) (s:List UInt8):Option Value:=if seenW s k then some (.bool true) else none
structure WordsJ (w:World) (st:Obj) (k:Nat) (W:World):Prop where
 rc:W.heap[w.heap.size+1+1+1+1]? = some st
 dd:W.heap[w.heap.size+1+1+1]? = some (.deferred (some []))
 out:W.cell? ⟨w.heap.size+1,0,none⟩=some (.map (some w.heap.size))
 map:VMap Tryz.prog 9 W w.heap.size k (seenF k)
 box:W.cell? ⟨w.heap.size+1+1,0,none⟩=some (.string wordsText)
 laid:Laid W
 low:Below w.heap.size w W
theorem WordsJ.turned {w:World} {st:Obj} {k:Nat} {W:World} (h:WordsJ w st k W) (hl0:Laid w) (st':Obj):WordsJ w st' k (W.putObj (w.heap.size+1+1+1+1) st'):=by
 have hlt:=(Array.getElem?_eq_some_iff.1 h.rc).1
 have ho : ∀ j,j≠w.heap.size+1+1+1+1→(W.putObj (w.heap.size+1+1+1+1) st').heap[j]? = W.heap[j]? := fun j hj=>World.putObj_heap_other hj
 have hb:=h.low.grown (grownBy_putObj' W (w.heap.size+1+1+1+1) st') h.low.size (fun k e=>by injection e with e;omega)
 exact ⟨World.putObj_heap_same hlt,(ho _ (by omega)).trans h.dd,(World.cell?_of_block (ho _ (by simp))).trans h.out,h.map.keep (ho _ (by omega)),(World.cell?_of_block (ho _ (by simp))).trans h.box,hl0.below hb,hb⟩
theorem WordsJ.put {w:World} {st:Obj} {k:Nat} {W W':World} (h:WordsJ w st k W) (hl0:Laid w) (hg:W.grownBy W' (some w.heap.size)) {n:Nat} (hn:n≤k+1) {f:List UInt8→Option Value} (hm:VMap Tryz.prog 9 W' w.heap.size n f) (hf : ∀ x,f x=seenF (k+1) x):WordsJ w st (k+1) W':=by
 have hlt:=(Array.getElem?_eq_some_iff.1 h.rc).1
 have ho : ∀ j,j<W.heap.size→j≠w.heap.size→W'.heap[j]? = W.heap[j]? := fun j hj hne=>hg.block j hj (fun e=>hne (by injection e))
 have hb:=h.low.grown hg h.low.size (fun k e=>by injection e with e;omega)
 exact ⟨(ho _ hlt (by omega)).trans h.rc,(ho (w.heap.size+1+1+1) (by omega) (by omega)).trans h.dd,(World.cell?_of_block (ho (w.heap.size+1) (by omega) (by omega))).trans h.out,(hm.mono hn).ext hf,
  (World.cell?_of_block (ho (w.heap.size+1+1) (by omega) (by omega))).trans h.box,hl0.below hb,hb⟩
theorem WordsJ.turnedD {w:World} {st:Obj} {k:Nat} {W:World} (h:WordsJ w st k W):VMap Tryz.prog 9 (W.putObj (w.heap.size+1+1+1) (.deferred none)) w.heap.size k (seenF k)∧Below w.heap.size w (W.putObj (w.heap.size+1+1+1) (.deferred none)):=by
 have hb:=h.low.grown (grownBy_putObj' W (w.heap.size+1+1+1) (.deferred none)) h.low.size (fun k e=>by injection e with e;omega)
 exact ⟨h.map.keep (World.putObj_heap_other (by omega)),hb⟩
theorem alloc5 (w:World) (a b c d e:Obj) (k:Nat):(((((w.alloc a).alloc b).alloc c).alloc d).alloc e).heap[k]? =
  if k=w.heap.size then some a else if k=w.heap.size+1 then some b else if k=w.heap.size+1+1 then some c else if k=w.heap.size+1+1+1 then some d else if k=w.heap.size+1+1+1+1 then some e else w.heap[k]? := by
 show (((((w.heap.push a).push b).push c).push d).push e)[k]? = _
 simp only [Array.getElem?_push,Array.size_push]
 split <;> rename_i h5
 ·subst h5
  rw [if_neg (by omega),if_neg (by omega),if_neg (by omega),if_neg (by omega)]
 ·split <;> rename_i h4
  ·subst h4
   rw [if_neg (by omega),if_neg (by omega),if_neg (by omega)]
  ·split <;> rename_i h3
   ·subst h3
    rw [if_neg (by omega),if_neg (by omega)]
   ·split <;> rename_i h2
    ·subst h2
     rw [if_neg (by omega)]
    ·rfl
theorem wordsJ_init (w:World) (hl0:Laid w) (st:Obj):WordsJ w st 0 (((((w.alloc (.map #[] 0)).alloc (.cells #[.map (some w.heap.size)] 163)).alloc (.cells #[.string wordsText] 9)).alloc (.deferred (some []))).alloc st):=by
 have hb:Below w.heap.size w (((((w.alloc (.map #[] 0)).alloc (.cells #[.map (some w.heap.size)] 163)).alloc (.cells #[.string wordsText] 9)).alloc (.deferred (some []))).alloc st) :=
  ((((((Below.refl _ w).alloc (Nat.le_refl _) _).alloc (by simp) _).alloc (by simp;omega) _).alloc (by simp;omega) _).alloc (by simp;omega) _)
 refine ⟨?_,?_,?_,?_,?_,hl0.below hb,hb⟩
 ·rw [alloc5,if_neg (by omega),if_neg (by omega),if_neg (by omega),if_neg (by omega),if_pos rfl]
 ·rw [alloc5,if_neg (by omega),if_neg (by omega),if_neg (by omega),if_pos rfl]
 ·refine (cell_of_row _ _ 0 #[.map (some w.heap.size)] 163 (0,0) ?_).trans rfl
  rw [alloc5,if_neg (by omega),if_pos rfl]
 ·refine ((VMap.made w Tryz.prog 9).keep ?_).ext (fun x=>by unfold seenF;rw [seenW];rfl)
  rw [alloc5,if_pos rfl]
  exact (heap_alloc_new _ _).symm
 ·refine (cell_of_row _ _ 0 #[.string wordsText] 9 (0,0) ?_).trans rfl
  rw [alloc5,if_neg (by omega),if_neg (by omega),if_pos rfl]
theorem calls_arg {P:Program} {f:FuncId} {a b:Value} {w:World} {Q:Ending→World→Prop} (h:a=b) (hc:Calls P f #[b] w Q):Calls P f #[a] w Q:=by rwa [h]
theorem WordsJ.skip {w:World} {st:Obj} {k:Nat} {W:World} (h:WordsJ w st k W) (he:endAt k=false):WordsJ w st (k+1) W:=by
 refine ⟨h.rc,h.dd,h.out,(h.map.mono (Nat.le_succ _)).ext (fun x => ?_),h.box,h.laid,h.low⟩
 unfold seenF
 rw [seenW,he]
 simp
theorem seenF_put (k:Nat) (he:endAt k=true) (x:List UInt8):(if x=wordTo k then some (Value.bool true) else seenF k x)=seenF (k+1) x:=by
 unfold seenF
 rw [seenW,he]
 by_cases hx:x=wordTo k
 ·rw [if_pos hx,hx]
  simp
 ·have hx':¬ wordTo k=x:=fun h=>hx h.symm
  rw [if_neg hx]
  simp [hx']
set_option maxRecDepth 100000 in
set_option maxHeartbeats 4000000 in
theorem words_calls (w:World) (hl0:Laid w) :
  Calls Tryz.prog 123 #[] w fun e w'=>e = .returned (.map (some w.heap.size))∧VMap Tryz.prog 9 w' w.heap.size 188 (seenF 188)∧Below w.heap.size w w':=by
 refine (callsIn_wide (n:=5)).1 (callsIn_of_wp_marks Tryz.func123 rfl trivial (wpIn_wide.2 ?_) rfl)
 simp only [Tryz.ntmps123,List.size_toArray,List.length_nil,Nat.reduceSub,Array.replicate_succ,Array.replicate_zero,List.push_toArray,List.append_toArray,List.nil_append,List.cons_append]
 have hmm := @run_makeMap Tryz.prog
 go_wp2_with fail
 refine calls_arg (b := .string wordsText) (by kernel_rfl) ?_
 refine (fseq_calls _ _).mono ?_
 rintro e w' ⟨rfl,rfl⟩
 go_wp2
 refine wpIn_wide.1 (range_outer (n:=5) rfl (by omega) (gf:=173) (lb:=#[.pointer (some ⟨w.heap.size+1+1,0,none⟩)]) rfl trivial (enters_of Tryz.func173 (by kernel_rfl) rfl) ?_)
 intro fn R _ hR
 simp only [World.size_alloc] at hR ⊢
 refine (fseq1_in 4 _ (w.heap.size+1+1) wordsText rfl (fun k W=>WordsJ w (R .ready none) k W) (fun k W hj=>⟨hj.laid,hj.box⟩) (fun k W _ he hj=>hj.skip he) ?_ _ ?_).mono ?_
 ·intro k W hk he hj
  obtain ⟨y,hy⟩ : ∃ y,wordsText.extract (fromAt k) k=y:=⟨_,rfl⟩
  have hyl:y.data.toList=wordTo k:=by rw [← hy,extract_list];rfl
  have hys:y.size≤maxLen:=by rw [← hy,ByteArray.size_extract];unfold maxLen;have:=words_size;omega
  rw [hy]
  clear hy
  refine (yield_of hR (fun W'=>WordsJ w (R .ready none) (k+1) W') (fun _ _=>False) trivial hj.rc rfl ?_).mono ?_
  ·clear hR
   gi_wp2
   refine ⟨hj.rc,?_⟩
   have hj1:=hj.turned hl0 (R .busy none)
   obtain ⟨W1,hW1⟩ : ∃ W1,W.putObj (w.heap.size+1+1+1+1) (R .busy none)=W1:=⟨_,rfl⟩
   rw [hW1] at hj1 ⊢
   clear hW1 hj
   have hout:=hj1.out
   obtain ⟨W2,hst,hm2,hg2⟩:=hj1.map.store Tryz.underlying9 Tryz.underlying163 (by unfold maxLen;omega) (s:=y) hys (.bool true)
   rw [hyl] at hm2
   have HJ2:Hid (WordsJ w (R .busy none) (k+1) W2):=Lib.hid (hj1.put hl0 hg2 (by split <;> omega) hm2 (seenF_put k he))
   clear hm2 hg2 hj1 hyl
   gi_wp2
   exact ⟨HJ2.out.rc,HJ2.out.turned hl0 (R .ready none)⟩
  ·rintro e W' (⟨rfl,h1⟩ | ⟨rfl,c,h1⟩)
   ·exact ⟨rfl,h1⟩
   ·exact h1.elim
 ·exact wordsJ_init w hl0 _
 ·rintro e W ⟨hv,hj⟩
  refine ⟨hv,hj.dd,.inl ⟨hj.rc,?_⟩⟩
  clear hR
  have hj1:=hj.turned hl0 (R .exhausted none)
  obtain ⟨W1,hW1⟩ : ∃ W1,W.putObj (w.heap.size+1+1+1+1) (R .exhausted none)=W1:=⟨_,rfl⟩
  rw [hW1] at hj1 ⊢
  clear hW1 hj
  have hout:=hj1.out
  have HJ1:=Lib.hid hj1
  clear hj1
  go_wp2
  refine ⟨by simp,.inl ⟨_,_,rfl,run_takeDeferred HJ1.out.dd,?_⟩⟩
  have hd:=HJ1.out.turnedD
  refine ⟨.map (some w.heap.size),?_,rfl,hd.1,hd.2⟩
  simp [results,Tryz.f123,go_sem]
end
section
open Go.RowKit
theorem zero_bool (w:World):(zeroValue 4).run Tryz.prog w = .ok (.bool false) w:=by kernel_rfl
theorem size_list (s:ByteArray):s.data.toList.length=s.size:=Array.length_toList
theorem seenF_end (s:List UInt8):(seenF 188 s).getD (.bool false) = .bool (wordB s):=by
 unfold seenF wordB
 rw [words_size]
 cases seenW s (187+1) <;> rfl
set_option maxHeartbeats 1000000 in
theorem isWord_calls (w:World) (hl:Laid w) (s:ByteArray) (hs:s.size≤maxLen) :
  Calls Tryz.prog 90 #[.string s] w fun e w'=>e = .returned (.bool (wordB s.data.toList))∧Below w.heap.size w w':=by
 have HW:=Lib.hid (words_calls w hl)
 clear hl
 go_enter Tryz.func90,Tryz.ntmps90
 go_wp2_with fail
 refine HW.out.mono ?_
 rintro e w' ⟨rfl,hm,hb⟩
 have hrun:=hm.look1 Tryz.underlying9 Tryz.underlying163 (z := .bool false) (zero_bool _) hs
 rw [seenF_end] at hrun
 have HB:=Lib.hid hb
 clear hm hb
 go_wp2
 go_ret
 exact ⟨rfl,HB.out⟩
theorem takeWhile_all {p:UInt8→Bool} : ∀ (l:List UInt8),decide ((l.takeWhile p).length=l.length)=l.all p
 | []=>rfl
 | x::l=>by
  cases hp:p x with
  | true=>simp [List.takeWhile,hp,← takeWhile_all l]
  | false=>simp [List.takeWhile,hp]
theorem nameB_eq {s:ByteArray} (h:0<s.size):nameB s.data.toList=(letterI (s[0]'h).toNat&&s.data.toList.all partB8 && !wordB s.data.toList):=by
 have h0:=byte_some h
 generalize s[0]'h=c at h0
 generalize s.data.toList=l at h0
 cases l with
 | nil=>simp at h0
 | cons x l =>
  simp at h0
  subst h0
  rfl
theorem empty_list (s:ByteArray):s.toList.isEmpty=decide (s.size=0):=by
 rw [ByteArray.toList_eq,← size_list]
 cases s.data.toList <;> simp
set_option maxRecDepth 100000 in
set_option maxHeartbeats 2000000 in
theorem isName_calls (w:World) (hl:Laid w) (s:ByteArray) (hs:s.size≤maxLen) :
  Calls Tryz.prog 53 #[.string s] w fun e w'=>e = .returned (.bool (nameB s.data.toList))∧Below w.heap.size w w':=by
 have hem:=empty_list s
 by_cases h0:s.size=0
 ·have hN:Hid (nameB s.data.toList=false):=by
   refine Lib.hid ?_
   have:s.data.toList=[]:=List.length_eq_zero_iff.1 ((size_list s).trans h0)
   rw [this]
   rfl
  rw [decide_eq_true h0] at hem
  clear h0
  go_enter Tryz.func53,Tryz.ntmps53
  go_wp2
  go_ret
  exact ⟨by rw [hN.out];rfl,Below.refl _ _⟩
 ·have hpos:0<s.size:=by omega
  rw [decide_eq_false h0] at hem
  clear h0
  have hN:=Lib.hid (nameB_eq hpos)
  have HT:=Lib.hid (takeWhile_all (p:=partB8) s.data.toList)
  have HL:=Lib.hid hl
  clear hl
  cases hc:letterI (s[0]'hpos).toNat with
  | false =>
   have hN':Hid (nameB s.data.toList=false):=Lib.hid (by rw [hN.out,hc];rfl)
   go_enter Tryz.func53,Tryz.ntmps53
   go_wp2_with (go_at_call 88;refine (isLetter_calls _ _).mono ?_;rintro e w' ⟨rfl,rfl⟩)
   go_ret
   exact ⟨by rw [hN'.out];rfl,Below.refl _ _⟩
  | true =>
   cases ha:s.data.toList.all partB8 with
   | false =>
    have hN':Hid (nameB s.data.toList=false):=Lib.hid (by rw [hN.out,hc,ha];rfl)
    have hq:((namesB s.data.toList:Int)==(s.size:Int))=false:=by
     rw [← ha,← HT.out,size_list]
     unfold namesB
     generalize (s.data.toList.takeWhile partB8).length=a
     generalize s.size=b
     rw [Bool.eq_iff_iff]
     simp
     omega
    clear ha
    go_enter Tryz.func53,Tryz.ntmps53
    go_wp2_with (first
     | (go_at_call 88;refine (isLetter_calls _ _).mono ?_;rintro e w' ⟨rfl,rfl⟩)
     | (go_at_call 89;refine (names_calls _ _ hs).mono ?_;rintro e w' ⟨rfl,rfl⟩))
    go_ret
    exact ⟨by rw [hN'.out];rfl,Below.refl _ _⟩
   | true =>
    have hN':Hid (nameB s.data.toList = !wordB s.data.toList):=Lib.hid (by rw [hN.out,hc,ha];rfl)
    have hq:((namesB s.data.toList:Int)==(s.size:Int))=true:=by
     rw [← ha,← HT.out,size_list]
     unfold namesB
     generalize (s.data.toList.takeWhile partB8).length=a
     generalize s.size=b
     rw [Bool.eq_iff_iff]
     simp
     omega
    clear ha
    go_enter Tryz.func53,Tryz.ntmps53
    go_wp2_with (first
     | (go_at_call 88;refine (isLetter_calls _ _).mono ?_;rintro e w' ⟨rfl,rfl⟩)
     | (go_at_call 89;refine (names_calls _ _ hs).mono ?_;rintro e w' ⟨rfl,rfl⟩)
     | (go_at_call 90;refine (isWord_calls _ HL.out _ hs).mono ?_;rintro e w' ⟨rfl,hb⟩;have HB:=Lib.hid hb;clear hb))
    go_ret
    exact ⟨by rw [hN'.out];rfl,HB.out⟩
set_option maxHeartbeats 1000000 in
theorem isFunName_calls (w:World) (hl:Laid w) (s:ByteArray) (hs:s.size≤maxLen) :
  Calls Tryz.prog 56 #[.string s] w fun e w'=>e = .returned (.bool (s.data.toList.isEmpty||nameB s.data.toList))∧Below w.heap.size w w':=by
 have HL:=Lib.hid hl
 clear hl
 rw [← ByteArray.toList_eq]
 cases hem:s.toList.isEmpty with
 | true =>
  go_enter Tryz.func56,Tryz.ntmps56
  go_wp2
  go_ret
  exact ⟨rfl,Below.refl _ _⟩
 | false =>
  go_enter Tryz.func56,Tryz.ntmps56
  go_wp2_with (go_at_call 53;refine (isName_calls _ HL.out _ hs).mono ?_;rintro e w' ⟨rfl,hb⟩;have HB:=Lib.hid hb;clear hb)
  go_ret
  exact ⟨by rw [ByteArray.toList_eq];rfl,HB.out⟩
set_option maxRecDepth 100000 in
set_option maxHeartbeats 1000000 in
theorem isMember_calls (w:World) (hl:Laid w) (s:ByteArray) (hs:s.size≤maxLen) :
  Calls Tryz.prog 57 #[.string s] w fun e w'=>e = .returned (.bool (nameB s.data.toList||wordB s.data.toList))∧Below w.heap.size w w':=by
 have HL:=Lib.hid hl
 clear hl
 cases hn:nameB s.data.toList with
 | true =>
  go_enter Tryz.func57,Tryz.ntmps57
  go_wp2_with (go_at_call 53;refine (isName_calls _ HL.out _ hs).mono ?_;rintro e w' ⟨rfl,hb⟩;have HB:=Lib.hid hb;clear hb)
  go_ret
  exact ⟨rfl,HB.out⟩
 | false =>
  go_enter Tryz.func57,Tryz.ntmps57
  go_wp2_with (first
   | (go_at_call 53;refine (isName_calls _ HL.out _ hs).mono ?_;rintro e w' ⟨rfl,hb⟩;have HL':=Lib.hid (HL.out.below hb);have HB:=Lib.hid hb;clear hb)
   | (go_at_call 90;refine (isWord_calls _ HL'.out _ hs).mono ?_;rintro e w' ⟨rfl,hb⟩;have HB':=Lib.hid hb;clear hb))
  go_ret
  exact ⟨rfl,HB.out.trans (HB'.out.mono HB.out.size)⟩
def signsText:ByteArray:=⟨#[43,32,45,32,42,32,60,32,60,61,32,61,61,61,32,33,61,61]⟩
theorem signs_fields:Lib.fields signsText.data.toList=signsL:=by kernel_rfl
theorem signs_ascii : ∀ (j:Nat) b,signsText.data.toList[j]? = some b→b.toNat<128:=by
 intro j b h
 have hm:=List.mem_of_getElem? h
 have : ∀ x ∈ signsText.data.toList,x.toNat<128:=by decide +kernel
 exact this b hm
def signsZ:List ByteArray:=signsL.map fun l=>⟨l.toArray⟩
theorem signs_cells (j:Nat) (hj:j<signsZ.length):((signsL.map fun l=>Value.string ⟨l.toArray⟩).toArray)[j]? = some (.string (signsZ.getD j ByteArray.empty)):=by
 unfold signsZ at hj ⊢
 simp only [List.length_map] at hj
 simp [List.getD,hj]
theorem signs_contains (s:ByteArray):Lib.containsS (signsZ.take 7) s=signB s.data.toList:=by
 have h7:signsZ.take 7=signsZ:=by rfl
 rw [h7,Bool.eq_iff_iff,Lib.containsS_iff]
 unfold signsZ signB
 simp only [List.mem_map,decide_eq_true_eq]
 constructor
 ·rintro ⟨l,hl,rfl⟩
  simpa using hl
 ·intro h
  refine ⟨_,h,?_⟩
  cases s
  simp
set_option maxHeartbeats 1000000 in
theorem isSign_calls (w:World) (hl:Laid w) (s:ByteArray) :
  Calls Tryz.prog 58 #[.string s] w fun e w'=>e = .returned (.bool (signB s.data.toList))∧Below w.heap.size w w':=by
 have HL:=Lib.hid hl
 clear hl
 cases hem:s.toList.isEmpty with
 | true =>
  have hN:Hid (signB s.data.toList=false):=by
   rw [ByteArray.toList_eq] at hem
   rw [List.isEmpty_iff.1 hem]
   exact Lib.hid (by decide)
  go_enter Tryz.func58,Tryz.ntmps58
  go_wp2
  go_ret
  exact ⟨by rw [hN.out];rfl,Below.refl _ _⟩
 | false =>
  go_enter Tryz.func58,Tryz.ntmps58
  go_wp2_with fail
  refine (Tryz.strings_Fields signsText w (by decide) signs_ascii HL.out.sp).mono ?_
  rintro e w' ⟨rfl,rfl⟩
  rw [signs_fields]
  have hz:Below w.heap.size w (w.alloc (.cells ((signsL.map fun l=>Value.string ⟨l.toArray⟩).toArray) 9)):=(Below.refl _ _).alloc (Nat.le_refl _) _
  have hcell : ∀ i,(w.alloc (.cells ((signsL.map fun l=>Value.string ⟨l.toArray⟩).toArray) 9)).cell? ⟨w.heap.size,i,none⟩=((signsL.map fun l=>Value.string ⟨l.toArray⟩).toArray)[i]? := fun i=>cell_of_row _ _ _ _ _ (0,0) (heap_alloc_new _ _)
  have HB:=Lib.hid hz
  have HC:=Lib.hid hcell
  clear hz hcell
  generalize w.alloc (.cells ((signsL.map fun l=>Value.string ⟨l.toArray⟩).toArray) 9)=w1 at HB HC ⊢
  go_wp2_with fail
  refine (Tryz.slices_Contains_string w.heap.size 0 7 7 signsZ s w1 (by decide) (by decide) ?_).mono ?_
  ·intro j hj
   rw [Nat.zero_add,HC.out j]
   exact signs_cells j hj
  rintro e w' ⟨rfl,rfl⟩
  go_wp2
  go_ret
  exact ⟨by rw [signs_contains];rfl,HB.out⟩
theorem beq_lit (a:ByteArray) (l:List UInt8):(a.toList==l)=decide (a.data.toList=l):=by
 rw [ByteArray.toList_eq,Bool.eq_iff_iff]
 simp
end
section
open Go.RowKit
theorem numV_snoc (l:List UInt8) (c:UInt8):numV (l++[c])=numV l*10+(c.toNat-48):=by
 unfold numV
 rw [List.foldl_append]
 rfl
set_option maxRecDepth 100000 in
set_option maxHeartbeats 2000000 in
theorem rnumber_calls (w:World) (s:ByteArray) (hs:s.data.toList.all digitB8=true) (h15:s.size≤15) (h0:¬ (1<s.size∧s.data.toList.head? = some 48)):Calls Tryz.prog 44 #[.string s] w fun e w'=>e = .returned (.tuple #[.int .i64 (numV s.data.toList),.bool true])∧w=w':=by
 have HD:Hid (∀ (k:Nat) (h:k<s.size),48≤(s[k]'h).toNat∧(s[k]'h).toNat≤57∧numV (s.data.toList.take (k+1))=numV (s.data.toList.take k)*10+((s[k]'h).toNat-48)):=Lib.hid fun k h=>by
  have hb:s.data.toList[k]? = some (s[k]'h):=byte_some h
  have hm:=List.mem_of_getElem? hb
  have h1:=List.all_eq_true.1 hs _ hm
  simp only [digitB8,digitI,Bool.and_eq_true,decide_eq_true_eq] at h1
  refine ⟨by omega,by omega,?_⟩
  rw [List.take_add_one,hb,Option.toList_some,numV_snoc]
 have HN:Hid (∀ k,numV (s.data.toList.take k)<1000000000000000):=Lib.hid fun k=>by
  refine numV_lt ?_ ?_
  ·rw [List.all_eq_true] at hs ⊢
   exact fun x hx=>hs x (List.mem_of_mem_take hx)
  ·have:=List.length_take_le k s.data.toList
   rw [size_len] at h15
   have h2:=List.length_take_le' k s.data.toList
   omega
 have HE:Hid (numV s.data.toList=numV (s.data.toList.take s.size)):=Lib.hid (by rw [List.take_of_length_le (by rw [size_len];omega)])
 have H0:Hid (∀ h:0<s.size,1<s.size→((((s[0]'h).toNat:Int)==48)=false)):=Lib.hid fun h h1=>by
  have hb:s.data.toList[0]? = some (s[0]'h):=byte_some h
  have:¬ (s[0]'h)=48:=fun e=>h0 ⟨h1,by rw [List.head?_eq_getElem?,hb,e]⟩
  cases hq:(((s[0]'h).toNat:Int)==48) with
  | false=>rfl
  | true =>
   rw [beq_iff_eq] at hq
   exact absurd (UInt8.toNat_inj.1 (by have:(48:UInt8).toNat=48:=rfl;omega)) this
 rw [HE.out]
 have h15i:¬ (15<(s.size:Int)):=by omega
 clear hs h0
 by_cases h1:1<s.size
 ·have hz:=H0.out (by omega) h1
  have h1i:1<(s.size:Int):=by omega
  have hpos:0<s.size:=by omega
  clear H0
  go_enter Tryz.func44,Tryz.ntmps44
  go_wp2
  go_loopw [4,5] (fun n i wr => ∃ k:Nat,k≤s.size∧n = .int .i64 (numV (s.data.toList.take k):Nat)∧i = .int .i64 k∧wr=w) (fun _ i _=>20-(intOf i).toNat)
  case atStart=>exact ⟨0,by omega,rfl,rfl,by trivial⟩
  case round =>
   obtain ⟨k,hk,rfl,rfl,rfl⟩:=hrel
   by_cases hlt:k<s.size
   ·obtain ⟨ha,hb,hc⟩:=HD.out k hlt
    have hn:=HN.out k
    have hn2:=HN.out (k+1)
    have HC:=Lib.hid hc
    rw [hc] at hn2
    obtain ⟨v,hv⟩ : ∃ v,numV (s.data.toList.take k)=v:=⟨_,rfl⟩
    rw [hv] at HC hn hn2 ⊢
    clear hc hv
    have hlti:(k:Int)<(s.size:Int):=by omega
    go_wp2
    go_roundw
    case rel=>exact ⟨k+1,by omega,by rw [HC.out];go_num,by go_num,by trivial⟩
    case measure=>simp [intOf];omega
   ·obtain rfl:k=s.size:=by omega
    have hdd:¬ (s.size:Int)<(s.size:Int):=by omega
    have hn:=HN.out s.size
    obtain ⟨v,hv⟩ : ∃ v,numV (s.data.toList.take s.size)=v:=⟨_,rfl⟩
    rw [hv]
    have HVV:=Lib.hid hv
    clear hv
    go_wp2
    go_ret2
    exact ⟨by rw [HVV.out];rfl,rfl⟩
 ·have h1i:¬ 1<(s.size:Int):=by omega
  clear H0
  go_enter Tryz.func44,Tryz.ntmps44
  go_wp2
  go_loopw [4,5] (fun n i wr => ∃ k:Nat,k≤s.size∧n = .int .i64 (numV (s.data.toList.take k):Nat)∧i = .int .i64 k∧wr=w) (fun _ i _=>20-(intOf i).toNat)
  case atStart=>exact ⟨0,by omega,rfl,rfl,by trivial⟩
  case round =>
   obtain ⟨k,hk,rfl,rfl,rfl⟩:=hrel
   by_cases hlt:k<s.size
   ·obtain ⟨ha,hb,hc⟩:=HD.out k hlt
    have hn:=HN.out k
    have hn2:=HN.out (k+1)
    have HC:=Lib.hid hc
    rw [hc] at hn2
    obtain ⟨v,hv⟩ : ∃ v,numV (s.data.toList.take k)=v:=⟨_,rfl⟩
    rw [hv] at HC hn hn2 ⊢
    clear hc hv
    have hlti:(k:Int)<(s.size:Int):=by omega
    go_wp2
    go_roundw
    case rel=>exact ⟨k+1,by omega,by rw [HC.out];go_num,by go_num,by trivial⟩
    case measure=>simp [intOf];omega
   ·obtain rfl:k=s.size:=by omega
    have hdd:¬ (s.size:Int)<(s.size:Int):=by omega
    have hn:=HN.out s.size
    obtain ⟨v,hv⟩ : ∃ v,numV (s.data.toList.take s.size)=v:=⟨_,rfl⟩
    rw [hv]
    have HVV:=Lib.hid hv
    clear hv
    go_wp2
    go_ret2
    exact ⟨by rw [HVV.out];rfl,rfl⟩
theorem prefix_take {p l:List UInt8}:p.isPrefixOf l=decide (l.take p.length=p):=by
 rw [Bool.eq_iff_iff,decide_eq_true_iff,List.isPrefixOf_iff_prefix,List.prefix_iff_eq_take]
 exact eq_comm
theorem begins_none {l:List UInt8} (h:beginsF l signs5=0):([61,61,61].isPrefixOf l=false∧[33,61,61].isPrefixOf l=false)∧[60,61].isPrefixOf l=false∧[38,38].isPrefixOf l=false∧[124,124].isPrefixOf l=false:=by
 simp only [signs5,beginsF,List.length_cons,List.length_nil] at h
 refine ⟨⟨?_,?_⟩,?_,?_,?_⟩ <;> (apply Bool.eq_false_iff.2;intro e;revert h;repeat' split) <;> simp_all
def signs7:List UInt8:=[61,46,43,40,41,47,33]
set_option maxRecDepth 100000 in
set_option maxHeartbeats 4000000 in
theorem rsignA_calls (w:World) (s:ByteArray) (c:UInt8) (hc:s.data.toList.head? = some c) (hpos:0<s.size) (hm:s.size≤65536) (h3:3≤s.size) (hb:beginsF s.data.toList signs5=0) (hin:signs7.contains c=true):Calls Tryz.prog 46 #[.string s] w fun e w'=>e = .returned (.int .i64 1)∧w=w':=by
 have HK:Hid ((s[0]'hpos)=c):=Lib.hid (by
  have hb:s.data.toList[0]? = some (s[0]'hpos):=byte_some hpos
  rw [← List.head?_eq_getElem?,hc] at hb
  exact (Option.some.inj hb).symm)
 obtain ⟨⟨e1,e2⟩,e3,e4,e5⟩:=begins_none hb
 have i0:3≤(s.size:Int):=by omega
 have i1:2≤(s.size:Int):=by omega
 have q1:((s.extract 0 3).toList==[61,61,61])=false:=by rw [beq_lit,extract_take];exact prefix_take.symm.trans e1
 have q2:((s.extract 0 3).toList==[33,61,61])=false:=by rw [beq_lit,extract_take];exact prefix_take.symm.trans e2
 have q3:((s.extract 0 2).toList==[60,61])=false:=by rw [beq_lit,extract_take];exact prefix_take.symm.trans e3
 have q4:((s.extract 0 2).toList==[38,38])=false:=by rw [beq_lit,extract_take];exact prefix_take.symm.trans e4
 have q5:((s.extract 0 2).toList==[124,124])=false:=by rw [beq_lit,extract_take];exact prefix_take.symm.trans e5
 have hmem:c ∈ signs7:=List.contains_iff_mem.1 hin
 clear hin hb hc e1 e2 e3 e4 e5
 simp only [signs7,List.mem_cons,List.not_mem_nil,or_false] at hmem
 rcases hmem with hmem | hmem | hmem | hmem | hmem | hmem | hmem
 ·have hv:((s[0]'hpos).toNat:Int)=61:=by rw [HK.out,hmem];rfl
  clear hmem HK
  go_enter Tryz.func46,Tryz.ntmps46
  go_wp2
  go_ret
  exact ⟨rfl,rfl⟩
 ·have hv:((s[0]'hpos).toNat:Int)=46:=by rw [HK.out,hmem];rfl
  clear hmem HK
  go_enter Tryz.func46,Tryz.ntmps46
  go_wp2
  go_ret
  exact ⟨rfl,rfl⟩
 ·have hv:((s[0]'hpos).toNat:Int)=43:=by rw [HK.out,hmem];rfl
  clear hmem HK
  go_enter Tryz.func46,Tryz.ntmps46
  go_wp2
  go_ret
  exact ⟨rfl,rfl⟩
 ·have hv:((s[0]'hpos).toNat:Int)=40:=by rw [HK.out,hmem];rfl
  clear hmem HK
  go_enter Tryz.func46,Tryz.ntmps46
  go_wp2
  go_ret
  exact ⟨rfl,rfl⟩
 ·have hv:((s[0]'hpos).toNat:Int)=41:=by rw [HK.out,hmem];rfl
  clear hmem HK
  go_enter Tryz.func46,Tryz.ntmps46
  go_wp2
  go_ret
  exact ⟨rfl,rfl⟩
 ·have hv:((s[0]'hpos).toNat:Int)=47:=by rw [HK.out,hmem];rfl
  clear hmem HK
  go_enter Tryz.func46,Tryz.ntmps46
  go_wp2
  go_ret
  exact ⟨rfl,rfl⟩
 ·have hv:((s[0]'hpos).toNat:Int)=33:=by rw [HK.out,hmem];rfl
  clear hmem HK
  go_enter Tryz.func46,Tryz.ntmps46
  go_wp2
  go_ret
  exact ⟨rfl,rfl⟩
set_option maxRecDepth 100000 in
set_option maxHeartbeats 4000000 in
theorem rsignB_calls (w:World) (s:ByteArray) (c:UInt8) (hc:s.data.toList.head? = some c) (hpos:0<s.size) (h3:s.size=2) (hb:beginsF s.data.toList signs5=0) (hin:signs7.contains c=true):Calls Tryz.prog 46 #[.string s] w fun e w'=>e = .returned (.int .i64 1)∧w=w':=by
 have HK:Hid ((s[0]'hpos)=c):=Lib.hid (by
  have hb:s.data.toList[0]? = some (s[0]'hpos):=byte_some hpos
  rw [← List.head?_eq_getElem?,hc] at hb
  exact (Option.some.inj hb).symm)
 obtain ⟨⟨e1,e2⟩,e3,e4,e5⟩:=begins_none hb
 have i0:¬ 3≤(s.size:Int):=by omega
 have i1:2≤(s.size:Int):=by omega
 have q3:((s.extract 0 2).toList==[60,61])=false:=by rw [beq_lit,extract_take];exact prefix_take.symm.trans e3
 have q4:((s.extract 0 2).toList==[38,38])=false:=by rw [beq_lit,extract_take];exact prefix_take.symm.trans e4
 have q5:((s.extract 0 2).toList==[124,124])=false:=by rw [beq_lit,extract_take];exact prefix_take.symm.trans e5
 have hmem:c ∈ signs7:=List.contains_iff_mem.1 hin
 clear hin hb hc e1 e2 e3 e4 e5
 simp only [signs7,List.mem_cons,List.not_mem_nil,or_false] at hmem
 rcases hmem with hmem | hmem | hmem | hmem | hmem | hmem | hmem
 ·have hv:((s[0]'hpos).toNat:Int)=61:=by rw [HK.out,hmem];rfl
  clear hmem HK
  go_enter Tryz.func46,Tryz.ntmps46
  go_wp2
  go_ret
  exact ⟨rfl,rfl⟩
 ·have hv:((s[0]'hpos).toNat:Int)=46:=by rw [HK.out,hmem];rfl
  clear hmem HK
  go_enter Tryz.func46,Tryz.ntmps46
  go_wp2
  go_ret
  exact ⟨rfl,rfl⟩
 ·have hv:((s[0]'hpos).toNat:Int)=43:=by rw [HK.out,hmem];rfl
  clear hmem HK
  go_enter Tryz.func46,Tryz.ntmps46
  go_wp2
  go_ret
  exact ⟨rfl,rfl⟩
 ·have hv:((s[0]'hpos).toNat:Int)=40:=by rw [HK.out,hmem];rfl
  clear hmem HK
  go_enter Tryz.func46,Tryz.ntmps46
  go_wp2
  go_ret
  exact ⟨rfl,rfl⟩
 ·have hv:((s[0]'hpos).toNat:Int)=41:=by rw [HK.out,hmem];rfl
  clear hmem HK
  go_enter Tryz.func46,Tryz.ntmps46
  go_wp2
  go_ret
  exact ⟨rfl,rfl⟩
 ·have hv:((s[0]'hpos).toNat:Int)=47:=by rw [HK.out,hmem];rfl
  clear hmem HK
  go_enter Tryz.func46,Tryz.ntmps46
  go_wp2
  go_ret
  exact ⟨rfl,rfl⟩
 ·have hv:((s[0]'hpos).toNat:Int)=33:=by rw [HK.out,hmem];rfl
  clear hmem HK
  go_enter Tryz.func46,Tryz.ntmps46
  go_wp2
  go_ret
  exact ⟨rfl,rfl⟩
set_option maxRecDepth 100000 in
set_option maxHeartbeats 4000000 in
theorem rsignC_calls (w:World) (s:ByteArray) (c:UInt8) (hc:s.data.toList.head? = some c) (hpos:0<s.size) (h3:s.size=1) (hb:beginsF s.data.toList signs5=0) (hin:signs7.contains c=true):Calls Tryz.prog 46 #[.string s] w fun e w'=>e = .returned (.int .i64 1)∧w=w':=by
 have HK:Hid ((s[0]'hpos)=c):=Lib.hid (by
  have hb:s.data.toList[0]? = some (s[0]'hpos):=byte_some hpos
  rw [← List.head?_eq_getElem?,hc] at hb
  exact (Option.some.inj hb).symm)
 obtain ⟨⟨e1,e2⟩,e3,e4,e5⟩:=begins_none hb
 have i0:¬ 3≤(s.size:Int):=by omega
 have i1:¬ 2≤(s.size:Int):=by omega
 have hmem:c ∈ signs7:=List.contains_iff_mem.1 hin
 clear hin hb hc e1 e2 e3 e4 e5
 simp only [signs7,List.mem_cons,List.not_mem_nil,or_false] at hmem
 rcases hmem with hmem | hmem | hmem | hmem | hmem | hmem | hmem
 ·have hv:((s[0]'hpos).toNat:Int)=61:=by rw [HK.out,hmem];rfl
  clear hmem HK
  go_enter Tryz.func46,Tryz.ntmps46
  go_wp2
  go_ret
  exact ⟨rfl,rfl⟩
 ·have hv:((s[0]'hpos).toNat:Int)=46:=by rw [HK.out,hmem];rfl
  clear hmem HK
  go_enter Tryz.func46,Tryz.ntmps46
  go_wp2
  go_ret
  exact ⟨rfl,rfl⟩
 ·have hv:((s[0]'hpos).toNat:Int)=43:=by rw [HK.out,hmem];rfl
  clear hmem HK
  go_enter Tryz.func46,Tryz.ntmps46
  go_wp2
  go_ret
  exact ⟨rfl,rfl⟩
 ·have hv:((s[0]'hpos).toNat:Int)=40:=by rw [HK.out,hmem];rfl
  clear hmem HK
  go_enter Tryz.func46,Tryz.ntmps46
  go_wp2
  go_ret
  exact ⟨rfl,rfl⟩
 ·have hv:((s[0]'hpos).toNat:Int)=41:=by rw [HK.out,hmem];rfl
  clear hmem HK
  go_enter Tryz.func46,Tryz.ntmps46
  go_wp2
  go_ret
  exact ⟨rfl,rfl⟩
 ·have hv:((s[0]'hpos).toNat:Int)=47:=by rw [HK.out,hmem];rfl
  clear hmem HK
  go_enter Tryz.func46,Tryz.ntmps46
  go_wp2
  go_ret
  exact ⟨rfl,rfl⟩
 ·have hv:((s[0]'hpos).toNat:Int)=33:=by rw [HK.out,hmem];rfl
  clear hmem HK
  go_enter Tryz.func46,Tryz.ntmps46
  go_wp2
  go_ret
  exact ⟨rfl,rfl⟩
theorem rsign_calls (w:World) (s:ByteArray) (c:UInt8) (hc:s.data.toList.head? = some c) (hm:s.size≤65536) (hb:beginsF s.data.toList signs5=0) (hin:signs7.contains c=true):Calls Tryz.prog 46 #[.string s] w fun e w'=>e = .returned (.int .i64 1)∧w=w':=by
 have hpos:0<s.size:=by
  rw [size_len]
  cases h:s.data.toList with
  | nil=>rw [h] at hc;cases hc
  | cons _ _=>simp
 by_cases h3:3≤s.size
 ·exact rsignA_calls w s c hc hpos hm h3 hb hin
 ·by_cases h2:s.size=2
  ·exact rsignB_calls w s c hc hpos h2 hb hin
  ·exact rsignC_calls w s c hc hpos (by omega) hb hin
end
end Go.Proofs.YtjjdmiaonkailaaGreatDoor
