/- Walks and plain laws, packed: Fits, FitsW, Right. -/
import Derived.Test.YtjjdmiaonkailaaGreatDoorK15
import Derived.Shelf.RegionOpen
namespace Go.Proofs.YtjjdmiaonkailaaGreatDoor
section
open Go.RowKit
theorem isEmpty_none (w:World) (s:ByteArray):Calls Tryz.prog 54 #[.string s] w fun e w'=>e = .returned (.bool s.data.toList.isEmpty)∧Below w.heap.size w w' :=
 (isNone_calls w s).mono fun _ _ ⟨he,hw⟩=>⟨by rw [he,ByteArray.toList_eq],hw ▸ Below.refl _ _⟩
theorem isText_below (w:World) (s:ByteArray):Calls Tryz.prog 55 #[.string s] w fun e w'=>e = .returned (.bool true)∧Below w.heap.size w w' :=
 (isText_calls w s).mono fun _ _ ⟨he,hw⟩=>⟨he,hw ▸ Below.refl _ _⟩
def TestAt (k:Int) (fn:Nat):Prop:=(∀ args w,(callFunc fn args).run Tryz.prog w = .ok (.enter fn args) w) ∧
 ∀ (w:World) (s:ByteArray),Laid w→s.size≤maxLen→Calls Tryz.prog fn #[.string s] w fun e w'=>e = .returned (.bool (testB k s.data.toList))∧Below w.heap.size w w'
theorem test_name:TestAt 1 53:=⟨enters_of Tryz.func53 (by kernel_rfl) rfl,fun w s hl hs=>isName_calls w hl s hs⟩
theorem test_none:TestAt 2 54:=⟨enters_of Tryz.func54 (by kernel_rfl) rfl,fun w s _ _=>isEmpty_none w s⟩
theorem test_text:TestAt 3 55:=⟨enters_of Tryz.func55 (by kernel_rfl) rfl,fun w s _ _=>isText_below w s⟩
theorem test_fun:TestAt 10 56:=⟨enters_of Tryz.func56 (by kernel_rfl) rfl,fun w s hl hs=>isFunName_calls w hl s hs⟩
theorem test_member:TestAt 13 57:=⟨enters_of Tryz.func57 (by kernel_rfl) rfl,fun w s hl hs=>isMember_calls w hl s hs⟩
theorem test_sign:TestAt 18 58:=⟨enters_of Tryz.func58 (by kernel_rfl) rfl,fun w s hl _=>isSign_calls w hl s⟩
theorem TestAt.of {k k':Int} {fn:Nat} (h:TestAt k fn) (e : ∀ s,testB k' s=testB k s):TestAt k' fn:=⟨h.1,fun w s hl hs=>by rw [e];exact h.2 w s hl hs⟩
theorem formF_test (k:Int) (fn:Nat) (lo hi:Int) (h:formF k=some (fn,lo,hi)):TestAt k fn∧0≤lo∧lo≤3∧0≤hi∧hi≤1073741824:=by
 by_cases h1:k=1
 ·subst h1
  have h':some ((53:Nat),(0:Int),(0:Int))=some (fn,lo,hi):=h
  cases h'
  exact ⟨test_name.of (fun s=>rfl),by decide,by decide,by decide,by decide⟩
 by_cases h2:k=2
 ·subst h2
  have h':some ((54:Nat),(0:Int),(0:Int))=some (fn,lo,hi):=h
  cases h'
  exact ⟨test_none.of (fun s=>rfl),by decide,by decide,by decide,by decide⟩
 by_cases h3:k=3
 ·subst h3
  have h':some ((55:Nat),(0:Int),(0:Int))=some (fn,lo,hi):=h
  cases h'
  exact ⟨test_text.of (fun s=>rfl),by decide,by decide,by decide,by decide⟩
 by_cases h4:k=4
 ·subst h4
  have h':some ((54:Nat),(0:Int),(0:Int))=some (fn,lo,hi):=h
  cases h'
  exact ⟨test_none.of (fun s=>rfl),by decide,by decide,by decide,by decide⟩
 by_cases h5:k=5
 ·subst h5
  have h':some ((54:Nat),(0:Int),(0:Int))=some (fn,lo,hi):=h
  cases h'
  exact ⟨test_none.of (fun s=>rfl),by decide,by decide,by decide,by decide⟩
 by_cases h6:k=6
 ·subst h6
  have h':some ((54:Nat),(0:Int),(0:Int))=some (fn,lo,hi):=h
  cases h'
  exact ⟨test_none.of (fun s=>rfl),by decide,by decide,by decide,by decide⟩
 by_cases h7:k=7
 ·subst h7
  have h':some ((54:Nat),(0:Int),(0:Int))=some (fn,lo,hi):=h
  cases h'
  exact ⟨test_none.of (fun s=>rfl),by decide,by decide,by decide,by decide⟩
 by_cases h8:k=8
 ·subst h8
  have h':some ((54:Nat),(0:Int),(0:Int))=some (fn,lo,hi):=h
  cases h'
  exact ⟨test_none.of (fun s=>rfl),by decide,by decide,by decide,by decide⟩
 by_cases h9:k=9
 ·subst h9
  have h':some ((54:Nat),(0:Int),(0:Int))=some (fn,lo,hi):=h
  cases h'
  exact ⟨test_none.of (fun s=>rfl),by decide,by decide,by decide,by decide⟩
 by_cases h10:k=10
 ·subst h10
  have h':some ((56:Nat),(1:Int),(201:Int))=some (fn,lo,hi):=h
  cases h'
  exact ⟨test_fun.of (fun s=>rfl),by decide,by decide,by decide,by decide⟩
 by_cases h11:k=11
 ·subst h11
  have h':some ((54:Nat),(0:Int),(200:Int))=some (fn,lo,hi):=h
  cases h'
  exact ⟨test_none.of (fun s=>rfl),by decide,by decide,by decide,by decide⟩
 by_cases h12:k=12
 ·subst h12
  have h':some ((55:Nat),(1:Int),(1:Int))=some (fn,lo,hi):=h
  cases h'
  exact ⟨test_text.of (fun s=>rfl),by decide,by decide,by decide,by decide⟩
 by_cases h13:k=13
 ·subst h13
  have h':some ((57:Nat),(1:Int),(1:Int))=some (fn,lo,hi):=h
  cases h'
  exact ⟨test_member.of (fun s=>rfl),by decide,by decide,by decide,by decide⟩
 by_cases h14:k=14
 ·subst h14
  have h':some ((54:Nat),(2:Int),(2:Int))=some (fn,lo,hi):=h
  cases h'
  exact ⟨test_none.of (fun s=>rfl),by decide,by decide,by decide,by decide⟩
 by_cases h15:k=15
 ·subst h15
  have h':some ((54:Nat),(1:Int),(200:Int))=some (fn,lo,hi):=h
  cases h'
  exact ⟨test_none.of (fun s=>rfl),by decide,by decide,by decide,by decide⟩
 by_cases h16:k=16
 ·subst h16
  have h':some ((54:Nat),(1:Int),(200:Int))=some (fn,lo,hi):=h
  cases h'
  exact ⟨test_none.of (fun s=>rfl),by decide,by decide,by decide,by decide⟩
 by_cases h17:k=17
 ·subst h17
  have h':some ((54:Nat),(2:Int),(2:Int))=some (fn,lo,hi):=h
  cases h'
  exact ⟨test_none.of (fun s=>rfl),by decide,by decide,by decide,by decide⟩
 by_cases h18:k=18
 ·subst h18
  have h':some ((58:Nat),(2:Int),(2:Int))=some (fn,lo,hi):=h
  cases h'
  exact ⟨test_sign.of (fun s=>rfl),by decide,by decide,by decide,by decide⟩
 by_cases h19:k=19
 ·subst h19
  have h':some ((54:Nat),(1:Int),(1:Int))=some (fn,lo,hi):=h
  cases h'
  exact ⟨test_none.of (fun s=>rfl),by decide,by decide,by decide,by decide⟩
 by_cases h20:k=20
 ·subst h20
  have h':some ((54:Nat),(1:Int),(1:Int))=some (fn,lo,hi):=h
  cases h'
  exact ⟨test_none.of (fun s=>rfl),by decide,by decide,by decide,by decide⟩
 by_cases h21:k=21
 ·subst h21
  have h':some ((54:Nat),(2:Int),(2:Int))=some (fn,lo,hi):=h
  cases h'
  exact ⟨test_none.of (fun s=>rfl),by decide,by decide,by decide,by decide⟩
 by_cases h22:k=22
 ·subst h22
  have h':some ((54:Nat),(2:Int),(2:Int))=some (fn,lo,hi):=h
  cases h'
  exact ⟨test_none.of (fun s=>rfl),by decide,by decide,by decide,by decide⟩
 by_cases h23:k=23
 ·subst h23
  have h':some ((54:Nat),(3:Int),(3:Int))=some (fn,lo,hi):=h
  cases h'
  exact ⟨test_none.of (fun s=>rfl),by decide,by decide,by decide,by decide⟩
 by_cases h30:k=30
 ·subst h30
  have h':some ((53:Nat),(0:Int),(1:Int))=some (fn,lo,hi):=h
  cases h'
  exact ⟨test_name.of (fun s=>rfl),by decide,by decide,by decide,by decide⟩
 by_cases h31:k=31
 ·subst h31
  have h':some ((54:Nat),(1:Int),(1:Int))=some (fn,lo,hi):=h
  cases h'
  exact ⟨test_none.of (fun s=>rfl),by decide,by decide,by decide,by decide⟩
 by_cases h32:k=32
 ·subst h32
  have h':some ((54:Nat),(0:Int),(1073741824:Int))=some (fn,lo,hi):=h
  cases h'
  exact ⟨test_none.of (fun s=>rfl),by decide,by decide,by decide,by decide⟩
 by_cases h33:k=33
 ·subst h33
  have h':some ((54:Nat),(2:Int),(3:Int))=some (fn,lo,hi):=h
  cases h'
  exact ⟨test_none.of (fun s=>rfl),by decide,by decide,by decide,by decide⟩
 by_cases h34:k=34
 ·subst h34
  have h':some ((54:Nat),(2:Int),(2:Int))=some (fn,lo,hi):=h
  cases h'
  exact ⟨test_none.of (fun s=>rfl),by decide,by decide,by decide,by decide⟩
 by_cases h35:k=35
 ·subst h35
  have h':some ((53:Nat),(2:Int),(2:Int))=some (fn,lo,hi):=h
  cases h'
  exact ⟨test_name.of (fun s=>rfl),by decide,by decide,by decide,by decide⟩
 by_cases h36:k=36
 ·subst h36
  have h':some ((54:Nat),(0:Int),(1:Int))=some (fn,lo,hi):=h
  cases h'
  exact ⟨test_none.of (fun s=>rfl),by decide,by decide,by decide,by decide⟩
 by_cases h37:k=37
 ·subst h37
  have h':some ((54:Nat),(1:Int),(1:Int))=some (fn,lo,hi):=h
  cases h'
  exact ⟨test_none.of (fun s=>rfl),by decide,by decide,by decide,by decide⟩
 by_cases h38:k=38
 ·subst h38
  have h':some ((53:Nat),(2:Int),(2:Int))=some (fn,lo,hi):=h
  cases h'
  exact ⟨test_name.of (fun s=>rfl),by decide,by decide,by decide,by decide⟩
 by_cases h39:k=39
 ·subst h39
  have h':some ((54:Nat),(0:Int),(0:Int))=some (fn,lo,hi):=h
  cases h'
  exact ⟨test_none.of (fun s=>rfl),by decide,by decide,by decide,by decide⟩
 by_cases h40:k=40
 ·subst h40
  have h':some ((54:Nat),(0:Int),(0:Int))=some (fn,lo,hi):=h
  cases h'
  exact ⟨test_none.of (fun s=>rfl),by decide,by decide,by decide,by decide⟩
 by_cases h41:k=41
 ·subst h41
  have h':some ((53:Nat),(1:Int),(201:Int))=some (fn,lo,hi):=h
  cases h'
  exact ⟨test_name.of (fun s=>rfl),by decide,by decide,by decide,by decide⟩
 rw [formF,if_neg h1,if_neg h2,if_neg h3,if_neg h4,if_neg h5,if_neg h6,if_neg h7,if_neg h8,if_neg h9,if_neg h10,if_neg h11,if_neg h12,if_neg h13,if_neg h14,if_neg h15,if_neg h16,if_neg h17,if_neg h18,if_neg h19,if_neg h20,if_neg h21,if_neg h22,if_neg h23,if_neg h30,if_neg h31,if_neg h32,if_neg h33,if_neg h34,if_neg h35,if_neg h36,if_neg h37,if_neg h38,if_neg h39,if_neg h40,if_neg h41] at h
 cases h
def zeroForm:Value := .agg #[.nilFunc,.int .i64 0,.int .i64 0]
theorem zero_form (w:World):(zeroValue 90).run Tryz.prog w = .ok zeroForm w:=by kernel_rfl
end
section
open Go.RowKit Go.Sort
theorem run_store_nilFunc {P:Program} {w:World} {a:Addr} {m:Mode}:(store a .nilFunc m).run P w=stored P w a .nilFunc m:=run_store P w a _ m rfl
theorem run_store_func {P:Program} {w:World} {a:Addr} {m:Mode} (g:Nat):(store a (.func (.func g) #[] #[]) m).run P w=stored P w a (.func (.func g) #[] #[]) m:=run_store P w a _ m rfl
attribute [local go_sem] run_store_nilFunc run_store_func
def FormsIn (w:World) (mb:Nat):Prop := ∃ n f,IMap Tryz.prog 3 w mb n f ∧ ∀ k,f k=formsAt k
theorem FormsIn.below {w w':World} {mb:Nat} (h:FormsIn w mb) (hb:Below w.heap.size w w'):FormsIn w' mb:=by
 obtain ⟨n,f,h1,h2⟩:=h
 exact ⟨n,f,h1.keep (hb.block _ h1.lt),h2⟩
theorem FormsIn.look {w:World} {mb:Nat} (h:FormsIn w mb) {op:Int} (hop:(Lit.int .i64 op).wf=true) :
  (Instr.lookup 57 (.map (some mb)) (.int .i64 op) true).run Tryz.prog w = .ok (.tuple #[(formsAt op).getD zeroForm,.bool (formsAt op).isSome]) w:=by
 obtain ⟨n,f,h1,h2⟩:=h
 rw [← h2]
 exact h1.look Tryz.underlying3 Tryz.underlying57 (zero_form w) hop
theorem cell_bel {w w':World} (hb:Below w.heap.size w w') {a:Addr} {v:Value} (hc:w.cell? a=some v):w'.cell? a=some v:=(hb.cell (World.block_lt_of_cell? w a hc)).trans hc
theorem kids_at {R:Tree→Bool} {k:Int} {len:Nat} {l:List Tree} {i:Nat} {u:Tree} (hu:l[i]? = some u):kidsB R k len i (l.drop i)=(partB k len i u.op&&R u&&kidsB R k len (i+1) (l.drop (i+1))):=by
 have:l.drop i=u::l.drop (i+1):=by
  obtain ⟨hi,rfl⟩:=List.getElem?_eq_some_iff.1 hu
  exact List.drop_eq_getElem_cons hi
 rw [this,kidsB]
def FitsAt (h:Nat):Prop := ∀ (d:Nat) (w:World) (t:Tree) (sl:Value) (mb:Nat),Laid w→Kids w d t.l sl→t.ok→FormsIn w mb →
 Calls Tryz.prog 31 #[.map (some mb),.agg #[.int .i64 t.op,.string t.s,.int .i64 t.n,sl,.int .i64 t.line],.int .i64 h] w fun e w'=>e = .returned (.bool (fitsB h t))∧Below w.heap.size w w'
set_option maxRecDepth 100000 in
set_option maxHeartbeats 4000000 in
theorem fits_none (h:Int) (w:World) (t:Tree) (mb:Nat) (A:Option Addr) (len c:Nat) (hm:FormsIn w mb) (hok:t.ok) (hn:formF t.op=none) :
  Calls Tryz.prog 31 #[.map (some mb),.agg #[.int .i64 t.op,.string t.s,.int .i64 t.n,.slice A len c,.int .i64 t.line],.int .i64 h] w fun e w'=>e = .returned (.bool false)∧Below w.heap.size w w':=by
 obtain ⟨w0,hw0⟩ : ∃ w0,w.alloc (.cells #[.int .i64 t.op,.string t.s,.int .i64 t.n,.slice A len c,.int .i64 t.line] 29)=w0:=⟨_,rfl⟩
 have bx:Blk5 w0 w.heap.size t.op t.s t.n (.slice A len c) t.line:=by rw [← hw0];exact blk5_new _ _ _ _ _ _
 have hb0:Below w.heap.size w w0:=by rw [← hw0];exact (Below.refl _ _).alloc (Nat.le_refl _) _
 have hlk:=(hm.below hb0).look hok.2.1
 simp only [formsAt,hn,Option.map_none,Option.getD_none,Option.isSome_none,zeroForm] at hlk
 have HB:=Lib.hid hb0
 obtain ⟨c0,c1,c2,c3,c4⟩:=bx
 clear hb0 hm hn hok
 cases hh:(h==0)
 all_goals
  go_enter Tryz.func31,Tryz.ntmps31
  go_wp2
  go_ret
  exact ⟨rfl,(HB.out.alloc HB.out.size _)⟩
set_option maxRecDepth 100000 in
set_option maxHeartbeats 4000000 in
theorem fits_low (w:World) (t:Tree) (mb:Nat) (A:Option Addr) (len c:Nat) (hm:FormsIn w mb) (hok:t.ok) (fn:Nat) (lo hi:Int) (hn:formF t.op=some (fn,lo,hi)) :
  Calls Tryz.prog 31 #[.map (some mb),.agg #[.int .i64 t.op,.string t.s,.int .i64 t.n,.slice A len c,.int .i64 t.line],.int .i64 0] w fun e w'=>e = .returned (.bool false)∧Below w.heap.size w w':=by
 obtain ⟨w0,hw0⟩ : ∃ w0,w.alloc (.cells #[.int .i64 t.op,.string t.s,.int .i64 t.n,.slice A len c,.int .i64 t.line] 29)=w0:=⟨_,rfl⟩
 have bx:Blk5 w0 w.heap.size t.op t.s t.n (.slice A len c) t.line:=by rw [← hw0];exact blk5_new _ _ _ _ _ _
 have hb0:Below w.heap.size w w0:=by rw [← hw0];exact (Below.refl _ _).alloc (Nat.le_refl _) _
 have hlk:=(hm.below hb0).look hok.2.1
 simp only [formsAt,hn,Option.map_some,Option.getD_some,Option.isSome_some,formV] at hlk
 have HB:=Lib.hid hb0
 obtain ⟨c0,c1,c2,c3,c4⟩:=bx
 clear hb0 hm hn hok
 go_enter Tryz.func31,Tryz.ntmps31
 go_wp2
 go_ret
 exact ⟨rfl,(HB.out.alloc HB.out.size _)⟩
set_option maxRecDepth 100000 in
theorem partF_enters (k:Int) (len i:Nat) : ∀ args w,(callFunc (partF k len i) args).run Tryz.prog w = .ok (.enter (partF k len i) args) w:=by
 have h1:=enters_of Tryz.func91 (by kernel_rfl) rfl
 have h2:=enters_of Tryz.func92 (by kernel_rfl) rfl
 have h3:=enters_of Tryz.func93 (by kernel_rfl) rfl
 have h4:=enters_of Tryz.func94 (by kernel_rfl) rfl
 have h5:=enters_of Tryz.func95 (by kernel_rfl) rfl
 have h6:=enters_of Tryz.func96 (by kernel_rfl) rfl
 unfold partF
 repeat' split
 all_goals assumption
set_option maxRecDepth 100000 in
set_option maxHeartbeats 4000000 in
theorem fits_step (h:Nat) (hh:h≤200) (ih:FitsAt h):FitsAt (h+1):=by
 intro d w t sl mb hl hk hok hm
 obtain ⟨hlen,A,c,rfl⟩:=hk.form
 cases hn:formF t.op with
 | none =>
  have e:fitsB (h+1) t=false:=by simp [fitsB,fitStep,hn]
  rw [e]
  exact fits_none _ w t mb A t.l.length c hm hok hn
 | some x =>
  obtain ⟨fn,lo,hi⟩:=x
  unfold maxLen at hlen
  obtain ⟨htest,hlo0,hlo,hhi0,hhi⟩:=formF_test _ _ _ _ hn
  have HE:Hid (fitsB (h+1) t=(testB t.op t.s.data.toList&&decide (lo≤t.l.length)&&decide ((t.l.length:Int)≤hi)&&numB t.op t.n&&kidsB (fitsB h) t.op t.l.length 0 t.l)):=Lib.hid (by simp [fitsB,fitStep,hn])
  obtain ⟨w0,hw0⟩ : ∃ w0,w.alloc (.cells #[.int .i64 t.op,.string t.s,.int .i64 t.n,.slice A t.l.length c,.int .i64 t.line] 29)=w0:=⟨_,rfl⟩
  have bx:Blk5 w0 w.heap.size t.op t.s t.n (.slice A t.l.length c) t.line:=by rw [← hw0];exact blk5_new _ _ _ _ _ _
  have hb0:Below w.heap.size w w0:=by rw [← hw0];exact (Below.refl _ _).alloc (Nat.le_refl _) _
  have hlk:=(hm.below hb0).look hok.2.1
  simp only [formsAt,hn,Option.map_some,Option.getD_some,Option.isSome_some,formV] at hlk
  have hent:=htest.1
  have HNF:=Lib.hid hn
  have HT:=Lib.hid htest.2
  have IH:=Lib.hid ih
  have HL:=Lib.hid (hl.below hb0)
  have HM:=Lib.hid (hm.below hb0)
  have HK:=Lib.hid (hk.below hb0)
  have HB:=Lib.hid hb0
  have HX:=Lib.hid bx
  have HOK:=Lib.hid hok
  obtain ⟨c0,c1,c2,c3,c4⟩:=bx
  clear hb0 hm hn hok htest ih hl hk
  have hlt:w.heap.size<w0.heap.size:=World.block_lt_of_cell? w0 _ c0
  obtain ⟨H,hH⟩ : ∃ H:Int,((h+1:Nat):Int)=H:=⟨_,rfl⟩
  rw [hH]
  have hH0:(H==0)=false:=by simp;omega
  have hH1:H-1=(h:Int):=by omega
  have hH2:0≤H:=by omega
  have hH3:H≤201:=by omega
  clear hH
  go_enter Tryz.func31,Tryz.ntmps31
  go_wp2_with fail
  have hb1:Below w0.heap.size w0 (w0.alloc (.cells #[.func (.func fn) #[] #[],.int .i64 lo,.int .i64 hi] 90)):=(Below.refl _ _).alloc (Nat.le_refl _) _
  have hfc : ∀ i,(w0.alloc (.cells #[.func (.func fn) #[] #[],.int .i64 lo,.int .i64 hi] 90)).cell? ⟨w0.heap.size,i,none⟩=#[.func (.func fn) #[] #[],.int .i64 lo,.int .i64 hi][i]? := fun i=>cell_of_row _ _ _ _ _ (0,0) (heap_alloc_new _ _)
  have f1:=hfc 1
  have f2:=hfc 2
  clear hfc
  generalize w0.alloc (.cells #[.func (.func fn) #[] #[],.int .i64 lo,.int .i64 hi] 90)=w1 at hb1 f1 f2 ⊢
  refine (HT.out w1 t.s (HL.out.below hb1) HOK.out.1).mono ?_
  rintro e w2 ⟨rfl,hb2⟩
  have hb02:=hb1.trans (hb2.mono hb1.size)
  replace f1:=cell_bel hb2 f1
  replace f2:=cell_bel hb2 f2
  clear c0 c1 c2 c3 c4 hlt hlk
  have HX2:=Lib.hid (HX.out.keep hb02)
  have HL2:=Lib.hid (HL.out.below hb02)
  have HM2:=Lib.hid (HM.out.below hb02)
  have HK2:=Lib.hid (HK.out.below hb02)
  have HB2:=Lib.hid (HB.out.trans (hb02.mono HB.out.size))
  obtain ⟨c0,c1,c2,c3,c4⟩:=HX2.out
  clear hb1 hb2 hb02
  cases htb:testB t.op t.s.data.toList with
  | false =>
   have HF:Hid (fitsB (h+1) t=false):=Lib.hid (by rw [HE.out,htb];rfl)
   clear htb
   go_wp2
   go_ret
   exact ⟨by rw [HF.out];rfl,HB2.out⟩
  | true =>
  have HE1:Hid (fitsB (h+1) t=(decide (lo≤t.l.length)&&decide ((t.l.length:Int)≤hi)&&numB t.op t.n&&kidsB (fitsB h) t.op t.l.length 0 t.l)):=Lib.hid (by rw [HE.out,htb];rfl)
  clear htb
  cases hlo':decide ((t.l.length:Int)<lo) with
  | true =>
   have HF:Hid (fitsB (h+1) t=false):=Lib.hid (by rw [HE1.out,show decide (lo≤(t.l.length:Int))=false by simp at hlo' ⊢;omega];rfl)
   go_wp2
   go_ret
   exact ⟨by rw [HF.out];rfl,HB2.out⟩
  | false =>
  have HE2:Hid (fitsB (h+1) t=(decide ((t.l.length:Int)≤hi)&&numB t.op t.n&&kidsB (fitsB h) t.op t.l.length 0 t.l)):=Lib.hid (by rw [HE1.out,show decide (lo≤(t.l.length:Int))=true by simp at hlo' ⊢;omega];rfl)
  cases hhi':decide (hi<(t.l.length:Int)) with
  | true =>
   have HF:Hid (fitsB (h+1) t=false):=Lib.hid (by rw [HE2.out,show decide ((t.l.length:Int)≤hi)=false by simp at hhi' ⊢;omega];rfl)
   go_wp2
   go_ret
   exact ⟨by rw [HF.out];rfl,HB2.out⟩
  | false =>
  have HE3:Hid (fitsB (h+1) t=(numB t.op t.n&&kidsB (fitsB h) t.op t.l.length 0 t.l)):=Lib.hid (by rw [HE2.out,show decide ((t.l.length:Int)≤hi)=true by simp at hhi' ⊢;omega];rfl)
  have HWR:Hid (IntKind.i64.wrap (h:Int)=h):=Lib.hid (Go.IntWalk.i64_in _ (by omega))
  have HLEN:Hid (t.op=2→t.l=[]):=Lib.hid fun h2=>by
   have h3:=HNF.out
   rw [h2] at h3
   have h4:some ((54:Nat),(0:Int),(0:Int))=some (fn,lo,hi):=h3
   cases h4
   have:t.l.length=0:=by simp at hhi';simp [hhi']
   exact List.length_eq_zero_iff.1 this
  cases hn0:(t.n != 0) with
  | true =>
   cases hn1:(t.op != 2) with
   | true =>
    have HF:Hid (fitsB (h+1) t=false):=Lib.hid (by
     rw [HE3.out,show numB t.op t.n=false by simp [numB] at hn0 hn1 ⊢;exact ⟨hn0,fun x=>absurd x hn1⟩]
     rfl)
    go_wp2
    go_ret
    exact ⟨by rw [HF.out];rfl,HB2.out⟩
   | false =>
    cases hn2:decide (t.n<0) with
    | true =>
     have HF:Hid (fitsB (h+1) t=false):=Lib.hid (by
      rw [HE3.out,show numB t.op t.n=false by simp [numB] at hn0 hn1 hn2 ⊢;exact ⟨hn0,fun _ h0=>by omega⟩]
      rfl)
     go_wp2
     go_ret
     exact ⟨by rw [HF.out];rfl,HB2.out⟩
    | false =>
     cases hn3:decide (999999999999999<t.n) with
     | true =>
      have HF:Hid (fitsB (h+1) t=false):=Lib.hid (by
       rw [HE3.out,show numB t.op t.n=false by simp [numB] at hn0 hn1 hn2 hn3 ⊢;exact ⟨hn0,fun _ _=>by omega⟩]
       rfl)
      go_wp2
      go_ret
      exact ⟨by rw [HF.out];rfl,HB2.out⟩
     | false =>
      have HE4:Hid (fitsB (h+1) t=true):=Lib.hid (by
       rw [HE3.out,show numB t.op t.n=true by simp [numB] at hn0 hn1 hn2 hn3 ⊢;exact .inr ⟨⟨hn1,by omega⟩,by omega⟩,HLEN.out (by simpa using hn1)]
       rfl)
      have hz:=HLEN.out (by simpa using hn1)
      have HZ0:Hid (t.l.length=0):=Lib.hid (by rw [hz];rfl)
      clear hz
      go_wp2
      go_loopw [69] (fun i wr => ∃ k:Nat,k≤t.l.length∧i = .int .i64 k∧Below w2.heap.size w2 wr) (fun _ _=>0)
      case atStart=>exact ⟨0,by omega,rfl,Below.refl _ _⟩
      case round =>
       obtain ⟨k,hk0,rfl,hb⟩:=hrel
       obtain rfl:k=0:=by have:=HZ0.out;omega
       have HB3:=Lib.hid hb
       clear hb
       have hdd:decide ((0:Int)<(t.l.length:Int))=false:=by rw [HZ0.out];rfl
       have hde:decide (0<t.l.length)=false:=by rw [HZ0.out];rfl
       go_wp2
       go_ret
       exact ⟨by rw [HE4.out];rfl,HB2.out.trans (HB3.out.mono HB2.out.size)⟩
  | false =>
   have HE4:Hid (fitsB (h+1) t=kidsB (fitsB h) t.op t.l.length 0 t.l):=Lib.hid (by
    rw [HE3.out,show numB t.op t.n=true by simp [numB] at hn0 ⊢;exact .inl hn0]
    rfl)
   go_wp2
   go_loopw [69] (fun i wr => ∃ k:Nat,k≤t.l.length∧i = .int .i64 k∧kidsB (fitsB h) t.op t.l.length 0 t.l=kidsB (fitsB h) t.op t.l.length k (t.l.drop k)∧Below w2.heap.size w2 wr) (fun i _=>t.l.length-(intOf i).toNat)
   case atStart=>exact ⟨0,by omega,rfl,rfl,Below.refl _ _⟩
   case round =>
    obtain ⟨k,hkl,rfl,hkb,hb⟩:=hrel
    have HKB:=Lib.hid hkb
    have HB3:=Lib.hid hb
    clear hkb hb c0 c1 c2 c3 c4 f1 f2
    by_cases hlt:k<t.l.length
    ·have hu:t.l[k]? = some t.l[k]:=List.getElem?_eq_getElem hlt
     generalize t.l[k]=u at hu
     obtain ⟨p,su,d1,hd1,rfl,hpu,hku,huk⟩:=HK2.out.at_ hu
     obtain ⟨_,A3,c3',rfl⟩:=hku.form
     have HU:=Lib.hid hu
     have HPU:=Lib.hid (hpu.below HB3.out)
     have HKU:=Lib.hid (hku.below HB3.out)
     have HOU:=Lib.hid huk
     obtain ⟨a0,a1,a2,a3,a4⟩:=HPU.out
     clear hu hpu hku huk
     go_wp2_with fail
     have hb8:Below wr.heap.size wr (wr.alloc (.cells #[.int .i64 u.op,.string u.s,.int .i64 u.n,.slice A3 u.l.length c3',.int .i64 u.line] 29)):=(Below.refl _ _).alloc (Nat.le_refl _) _
     have hx8:Blk5 (wr.alloc (.cells #[.int .i64 u.op,.string u.s,.int .i64 u.n,.slice A3 u.l.length c3',.int .i64 u.line] 29)) wr.heap.size u.op u.s u.n (.slice A3 u.l.length c3') u.line:=blk5_new _ _ _ _ _ _
     generalize wr.alloc (.cells #[.int .i64 u.op,.string u.s,.int .i64 u.n,.slice A3 u.l.length c3',.int .i64 u.line] 29)=w8 at hb8 hx8 ⊢
     clear a0 a1 a2 a3 a4
     obtain ⟨x0,x1,x2,x3,x4⟩:=hx8
     obtain ⟨y0,y1,y2,y3,y4⟩:=(HX2.out.keep HB3.out).keep hb8
     have HB8:=Lib.hid (HB3.out.trans (hb8.mono HB3.out.size))
     have HL8:=Lib.hid (HL2.out.below HB8.out)
     have HM8:=Lib.hid (HM2.out.below HB8.out)
     have HKU8:=Lib.hid (HKU.out.below hb8)
     have hpe:=partF_enters t.op t.l.length k
     have HPF:=Lib.hid (fun w=>partFn_calls w t.op t.l.length k u.op)
     have HPC:=Lib.hid (fun w=>part_calls w t.op t.s t.n (some p) t.l.length c t.line k hlen)
     have HNX:=Lib.hid (HKB.out.trans (kids_at HU.out))
     generalize partF t.op t.l.length k=pf at hpe HPF HPC
     clear hb8
     have g0:=cell_regrown x0
     have g1:=cell_regrown x1
     have g2:=cell_regrown x2
     have g3:=cell_regrown x3
     have g4:=cell_regrown x4
     have k0:=cell_regrown y0
     have k1:=cell_regrown y1
     have k2:=cell_regrown y2
     have k3:=cell_regrown y3
     have k4:=cell_regrown y4
     clear x0 x1 x2 x3 x4 y0 y1 y2 y3 y4
     cases hpb:partB t.op t.l.length k u.op with
     | false =>
      have HF:Hid (fitsB (h+1) t=false):=Lib.hid (by rw [HE4.out,HNX.out,hpb];rfl)
      rw [hpb] at HPF
      clear hpb
      refine wp_region_quiet_below (by kernel_rfl) (by kernel_rfl) ?_
      repeat (first
       | go_big_quiet_skip
       | quiet_step ((first
        | (go_at_call 59;exact Calls.regrown_of (HPC.out _))
        | (go_at_fn pf;exact Calls.regrown_of ((HPF.out _).mono (fun _ _ ⟨he,hw⟩=>⟨he,hw ▸ Below.refl _ _⟩))))))
      refine wpQuiet_nil ?_
      intro _ hw'
      obtain ⟨⟨dq,osq⟩,rfl⟩:=hw'
      have HB9:=Lib.hid (HB8.out.trans ((below_regrown w8 dq osq).mono HB8.out.size))
      go_wp2
      go_ret
      exact ⟨by rw [HF.out];rfl,HB2.out.trans (HB9.out.mono HB2.out.size)⟩
     | true =>
      rw [hpb] at HPF
      have HFC0:Hid (∀ dq osq,Calls Tryz.prog 31 #[.map (some mb),.agg #[.int .i64 u.op,.string u.s,.int .i64 u.n,.slice A3 u.l.length c3',.int .i64 u.line],.int .i64 h] (grow (redrawn w8 dq) osq) fun e w'=>e = .returned (.bool (fitsB h u))∧Below (grow (redrawn w8 dq) osq).heap.size (grow (redrawn w8 dq) osq) w') :=
       Lib.hid fun dq osq=>IH.out d1 _ u _ mb (HL8.out.below (below_regrown w8 dq osq)) (HKU8.out.below (below_regrown w8 dq osq)) HOU.out (HM8.out.below (below_regrown w8 dq osq))
      cases hfb:fitsB h u with
      | false =>
       have HF:Hid (fitsB (h+1) t=false):=Lib.hid (by rw [HE4.out,HNX.out,hpb,hfb];rfl)
       have HFC:=HFC0
       rw [hfb] at HFC
       clear hpb hfb HFC0
       refine wp_region_quiet_below (by kernel_rfl) (by kernel_rfl) ?_
       repeat (first
        | go_big_quiet_skip
        | quiet_step ((first
         | (go_at_call 59;exact Calls.regrown_of (HPC.out _))
         | (go_at_fn pf;exact Calls.regrown_of ((HPF.out _).mono (fun _ _ ⟨he,hw⟩=>⟨he,hw ▸ Below.refl _ _⟩)))
         | (go_at_call 31;rw [HWR.out];exact Calls.regrown_of (HFC.out _ _)))))
       refine wpQuiet_nil ?_
       intro _ hw'
       obtain ⟨⟨dq,osq⟩,rfl⟩:=hw'
       have HB9:=Lib.hid (HB8.out.trans ((below_regrown w8 dq osq).mono HB8.out.size))
       go_wp2
       go_ret
       exact ⟨by rw [HF.out];rfl,HB2.out.trans (HB9.out.mono HB2.out.size)⟩
      | true =>
       have HN':Hid (kidsB (fitsB h) t.op t.l.length 0 t.l=kidsB (fitsB h) t.op t.l.length (k+1) (t.l.drop (k+1))):=Lib.hid (by rw [HNX.out,hpb,hfb];rfl)
       have HFC:=HFC0
       rw [hfb] at HFC
       clear hpb hfb HFC0
       refine wp_region_quiet_below (by kernel_rfl) (by kernel_rfl) ?_
       repeat (first
        | go_big_quiet_skip
        | quiet_step ((first
         | (go_at_call 59;exact Calls.regrown_of (HPC.out _))
         | (go_at_fn pf;exact Calls.regrown_of ((HPF.out _).mono (fun _ _ ⟨he,hw⟩=>⟨he,hw ▸ Below.refl _ _⟩)))
         | (go_at_call 31;rw [HWR.out];exact Calls.regrown_of (HFC.out _ _)))))
       refine wpQuiet_nil ?_
       intro _ hw'
       obtain ⟨⟨dq,osq⟩,rfl⟩:=hw'
       have HB9:=Lib.hid (HB8.out.trans ((below_regrown w8 dq osq).mono HB8.out.size))
       go_wp2
       go_roundw
       case rel=>exact ⟨k+1,by omega,by go_num,HN'.out,HB9.out⟩
       case measure=>simp [intOf];omega
    ·obtain rfl:k=t.l.length:=by omega
     have hdd:decide ((t.l.length:Int)<(t.l.length:Int))=false:=by simp
     have HT':Hid (fitsB (h+1) t=true):=Lib.hid (by rw [HE4.out,HKB.out,List.drop_length];rfl)
     go_wp2
     go_ret
     exact ⟨by rw [HT'.out];rfl,HB2.out.trans (HB3.out.mono HB2.out.size)⟩
end
section
open Go.RowKit
theorem fits_all : ∀ h,h≤200→FitsAt h
 | 0,_=>by
  intro d w t sl mb _ hk hok hm
  obtain ⟨_,A,c,rfl⟩:=hk.form
  cases hn:formF t.op with
  | none=>exact fits_none _ w t mb A t.l.length c hm hok hn
  | some x=>exact fits_low w t mb A t.l.length c hm hok x.1 x.2.1 x.2.2 hn
 | h+1,hh=>fits_step h (by omega) (fits_all h (by omega))
def rightB (t:Tree):Bool:=t.op==32&&fitsB 100 t
def rightE (t:Tree):Bool:=exprK t.op&&fitsB 100 t
set_option maxRecDepth 100000 in
set_option maxHeartbeats 1000000 in
theorem right_calls (d:Nat) (w:World) (t:Tree) (sl:Value) (hl:Laid w) (hk:Kids w d t.l sl) (hok:t.ok) :
  Calls Tryz.prog 17 #[.agg #[.int .i64 t.op,.string t.s,.int .i64 t.n,sl,.int .i64 t.line]] w fun e w'=>e = .returned (.bool (rightB t))∧Below w.heap.size w w':=by
 obtain ⟨_,A,c,rfl⟩:=hk.form
 obtain ⟨w0,hw0⟩ : ∃ w0,w.alloc (.cells #[.int .i64 t.op,.string t.s,.int .i64 t.n,.slice A t.l.length c,.int .i64 t.line] 29)=w0:=⟨_,rfl⟩
 have bx:Blk5 w0 w.heap.size t.op t.s t.n (.slice A t.l.length c) t.line:=by rw [← hw0];exact blk5_new _ _ _ _ _ _
 have hb0:Below w.heap.size w w0:=by rw [← hw0];exact (Below.refl _ _).alloc (Nat.le_refl _) _
 have HB0:=Lib.hid hb0
 have HX:=Lib.hid bx
 have HL:=Lib.hid (hl.below hb0)
 have HK:=Lib.hid (hk.below hb0)
 have HOK:=Lib.hid hok
 obtain ⟨c0,c1,c2,c3,c4⟩:=bx
 clear hb0 hl hk hok
 cases h32:(t.op==32) with
 | false =>
  have HF:Hid (rightB t=false):=Lib.hid (by rw [rightB,h32];rfl)
  go_enter Tryz.func17,Tryz.ntmps17
  go_wp2
  go_region
  go_wp2
  go_ret
  exact ⟨by rw [HF.out];rfl,HB0.out.drew⟩
 | true =>
  have HT:Hid (rightB t=fitsB 100 t):=Lib.hid (by rw [rightB,h32];rfl)
  go_enter Tryz.func17,Tryz.ntmps17
  go_wp2
  go_region_with (first
   | (go_at_call 29;refine (exprK_calls _ t.op).mono ?_;rintro e w1 ⟨rfl,rfl⟩)
   | (go_at_call 30;refine (forms_calls _).mono ?_;rintro e w1 ⟨n,f,rfl,hm,hf,hb1⟩;have HM:=Lib.hid (⟨n,f,hm,hf⟩:FormsIn w1 _);have HB1:=Lib.hid ((Below.refl _ w0).drew.trans hb1);clear hm hf hb1;obtain ⟨e0,e1,e2,e3,e4⟩:=HX.out.keep HB1.out)
   | (go_at_call 31;refine (fits_all 100 (by omega) d w1 t _ _ (HL.out.below HB1.out) (HK.out.below HB1.out) HOK.out HM.out).mono ?_;rintro e w2 ⟨rfl,hb2⟩;have HB2:=Lib.hid hb2;clear hb2))
  all_goals
   go_wp2
   go_ret
   exact ⟨by rw [HT.out];rfl,HB0.out.trans ((HB1.out.trans (HB2.out.mono HB1.out.size)).mono HB0.out.size)⟩
set_option maxRecDepth 100000 in
set_option maxHeartbeats 1000000 in
theorem rightExpr_calls (d:Nat) (w:World) (t:Tree) (sl:Value) (hl:Laid w) (hk:Kids w d t.l sl) (hok:t.ok) :
  Calls Tryz.prog 13 #[.agg #[.int .i64 t.op,.string t.s,.int .i64 t.n,sl,.int .i64 t.line]] w fun e w'=>e = .returned (.bool (rightE t))∧Below w.heap.size w w':=by
 obtain ⟨_,A,c,rfl⟩:=hk.form
 obtain ⟨w0,hw0⟩ : ∃ w0,w.alloc (.cells #[.int .i64 t.op,.string t.s,.int .i64 t.n,.slice A t.l.length c,.int .i64 t.line] 29)=w0:=⟨_,rfl⟩
 have bx:Blk5 w0 w.heap.size t.op t.s t.n (.slice A t.l.length c) t.line:=by rw [← hw0];exact blk5_new _ _ _ _ _ _
 have hb0:Below w.heap.size w w0:=by rw [← hw0];exact (Below.refl _ _).alloc (Nat.le_refl _) _
 have HB0:=Lib.hid hb0
 have HX:=Lib.hid bx
 have HL:=Lib.hid (hl.below hb0)
 have HK:=Lib.hid (hk.below hb0)
 have HOK:=Lib.hid hok
 obtain ⟨c0,c1,c2,c3,c4⟩:=bx
 clear hb0 hl hk hok
 cases h32:exprK t.op with
 | false =>
  have HF:Hid (rightE t=false):=Lib.hid (by rw [rightE,h32];rfl)
  go_enter Tryz.func13,Tryz.ntmps13
  go_wp2
  go_region_with (go_at_call 29;refine (exprK_calls _ t.op).mono ?_;rintro e w1 ⟨rfl,rfl⟩)
  all_goals
   go_wp2
   go_ret
   exact ⟨by rw [HF.out];rfl,HB0.out.drew⟩
 | true =>
  have HT:Hid (rightE t=fitsB 100 t):=Lib.hid (by rw [rightE,h32];rfl)
  go_enter Tryz.func13,Tryz.ntmps13
  go_wp2
  go_region_with (first
   | (go_at_call 29;refine (exprK_calls _ t.op).mono ?_;rintro e w1 ⟨rfl,rfl⟩)
   | (go_at_call 30;refine (forms_calls _).mono ?_;rintro e w1 ⟨n,f,rfl,hm,hf,hb1⟩;have HM:=Lib.hid (⟨n,f,hm,hf⟩:FormsIn w1 _);have HB1:=Lib.hid ((Below.refl _ w0).drew.trans hb1);clear hm hf hb1;obtain ⟨e0,e1,e2,e3,e4⟩:=HX.out.keep HB1.out)
   | (go_at_call 31;refine (fits_all 100 (by omega) d w1 t _ _ (HL.out.below HB1.out) (HK.out.below HB1.out) HOK.out HM.out).mono ?_;rintro e w2 ⟨rfl,hb2⟩;have HB2:=Lib.hid hb2;clear hb2))
  all_goals
   go_wp2
   go_ret
   exact ⟨by rw [HT.out];rfl,HB0.out.trans ((HB1.out.trans (HB2.out.mono HB1.out.size)).mono HB0.out.size)⟩
end
end Go.Proofs.YtjjdmiaonkailaaGreatDoor
