/- Walks and plain laws, packed: ParE. -/
import Derived.Test.YtjjdmiaonkailaaGreatDoorK04
namespace Go.Proofs.YtjjdmiaonkailaaGreatDoor
section
open Go.RowKit
structure Ctx (last':Nat) (m:List Tl) (P:List Tl→Prop):Prop where
 ne:m≠[]
 at_ : ∀ ss:List (List UInt8),¬ [59] ∈ ss→¬ [125] ∈ ss→atF ss m=false
 lab:¬ ((hereF 0 m).t.kind=5∧(hereF 0 m).t.s=[58])
 step : ∀ t r,P (t::r)→¬ (t.t.kind=5∧t.t.s=[59])→P r
 semi : ∀ t r,P (t::r)→P r∨r=[]
 suf : ∀ l r,P l→r <:+ l→r≠[]→P r
 end_:P [] → ∃ s,m=[s]∧s.nl=true∧s.t.kind=5∧(s.t.s=[59]∨s.t.s=[125])
variable {α β : Type} {last last':Nat} {m:List Tl} {P:List Tl→Prop}
def ExE (m:List Tl) (P:List Tl→Prop) (x y:Rd α):Prop := ∀ a r,x=some (.ok (a,r))→P r∧y=some (.ok (a,r++m))
def RelS (m:List Tl) (P:List Tl→Prop) (r r':List Tl):Prop:=r'=r++m∨(r=[]∧r'=[]∧P []∧atF [[59]] m=true)
def ExS (m:List Tl) (P:List Tl→Prop) (x y:Rd α):Prop := ∀ a r,x=some (.ok (a,r))→(P r∨r=[]) ∧ ∃ r',y=some (.ok (a,r'))∧RelS m P r r'
structure Ext (m:List Tl) (P:List Tl→Prop) (F G:Fns):Prop where
 expr : ∀ l,P l→ExE m P (F.expr l) (G.expr (l++m))
 cond : ∀ l,P l→ExE m P (F.cond l) (G.cond (l++m))
 level : ∀ n l,P l→ExE m P (F.level n l) (G.level n (l++m))
 more : ∀ n x b l,P l→ExE m P (F.more n x b l) (G.more n x b (l++m))
 signed : ∀ l,P l→ExE m P (F.signed l) (G.signed (l++m))
 chain : ∀ l,P l→ExE m P (F.chain l) (G.chain (l++m))
 members : ∀ b x l,P l→ExE m P (F.members b x l) (G.members b x (l++m))
 thing : ∀ l,P l→ExE m P (F.thing l) (G.thing (l++m))
 args : ∀ a l,P l→ExE m P (F.args a l) (G.args a (l++m))
 pairs : ∀ a l,P l→ExE m P (F.pairs a l) (G.pairs a (l++m))
 names : ∀ a l,P l→ExE m P (F.names a l) (G.names a (l++m))
 rest : ∀ l,P l→ExE m P (F.rest l) (G.rest (l++m))
 block : ∀ l,P l→ExE m P (F.block l) (G.block (l++m))
 stmts : ∀ a l,P l → ∀ ps r,F.stmts a l=some (.ok (ps,r))→P r → ∃ r',G.stmts a (l++m)=some (.ok (ps,r'))∧RelS m P r r'
 within : ∀ l,P l→ExS m P (F.within l) (G.within (l++m))
 stmt : ∀ l,P l→ExS m P (F.stmt l) (G.stmt (l++m))
 word : ∀ s i l,P l→ExS m P (F.word s i l) (G.word s i (l++m))
theorem ExE.ok {a : α} {r:List Tl} (h:P r):ExE m P (Rd.ok a r) (Rd.ok a (r++m)):=by
 intro a' r' h'
 obtain ⟨rfl,rfl⟩:a=a'∧r=r':=by simpa [Rd.ok] using h'
 exact ⟨h,rfl⟩
theorem ExE.fail {y:Rd α} {e:Int} {l:List Tl}:ExE m P (failF last e l:Rd α) y:=by
 intro a r h
 simp [failF] at h
theorem ExE.stop {y:Rd α} {b:Bool} {l:List Tl}:ExE m P (stopF last b l:Rd α) y:=ExE.fail
theorem ExE.bind {x y:Rd α} {g k : α → List Tl→Rd β} (h:ExE m P x y) (hg : ∀ a r,P r→ExE m P (g a r) (k a (r++m))):ExE m P (x.bind g) (y.bind k):=by
 match x,h with
 | none,_=>intro a r h';cases h'
 | some (.error e),_=>intro a r h';cases h'
 | some (.ok (a,r)),h =>
  obtain ⟨h1,h2⟩:=h a r rfl
  rw [h2]
  exact hg a r h1
theorem ExS.ok {a : α} {r r':List Tl} (h:P r∨r=[]) (hr:RelS m P r r'):ExS m P (Rd.ok a r) (Rd.ok a r'):=by
 intro a' r2 h'
 obtain ⟨rfl,rfl⟩:a=a'∧r=r2:=by simpa [Rd.ok] using h'
 exact ⟨h,r',rfl,hr⟩
theorem ExS.fail {y:Rd α} {e:Int} {l:List Tl}:ExS m P (failF last e l:Rd α) y:=by
 intro a r h
 simp [failF] at h
theorem ExS.stop {y:Rd α} {b:Bool} {l:List Tl}:ExS m P (stopF last b l:Rd α) y:=ExS.fail
theorem ExE.bindS {x y:Rd α} {g k : α → List Tl→Rd β} (h:ExE m P x y) (hg : ∀ a r,P r→ExS m P (g a r) (k a (r++m))):ExS m P (x.bind g) (y.bind k):=by
 match x,h with
 | none,_=>intro a r h';cases h'
 | some (.error e),_=>intro a r h';cases h'
 | some (.ok (a,r)),h =>
  obtain ⟨h1,h2⟩:=h a r rfl
  rw [h2]
  exact hg a r h1
theorem ExS.bind {x y:Rd α} {g k : α → List Tl→Rd β} (h:ExS m P x y) (hg : ∀ a r r',(P r∨r=[])→RelS m P r r'→ExS m P (g a r) (k a r')):ExS m P (x.bind g) (y.bind k):=by
 match x,h with
 | none,_=>intro a r h';cases h'
 | some (.error e),_=>intro a r h';cases h'
 | some (.ok (a,r)),h =>
  obtain ⟨h1,r',h2,h3⟩:=h a r rfl
  rw [h2]
  exact hg a r r' h1 h3
theorem ExE.toS {x y:Rd α} (h:ExE m P x y):ExS m P x y:=by
 intro a r h'
 obtain ⟨h1,h2⟩:=h a r h'
 exact ⟨.inl h1,r++m,h2,.inl rfl⟩
theorem ExE.none {y:Rd α}:ExE m P (none:Rd α) y:=by
 intro a r h
 cases h
theorem at_app (C:Ctx last' m P) (l:List Tl) {ss:List (List UInt8)} (h1:¬ [59] ∈ ss) (h2:¬ [125] ∈ ss):atF ss (l++m)=atF ss l:=by
 cases l with
 | nil=>exact C.at_ ss h1 h2
 | cons t l=>rfl
theorem at_step (C:Ctx last' m P) {l:List Tl} {ss:List (List UInt8)} (h1:¬ [59] ∈ ss) (hl:P l) (h:atF ss l=true):P l.tail∧(l++m).tail=l.tail++m ∧ ∀ n n',hereF n' (l++m)=hereF n l:=by
 cases l with
 | nil=>cases h
 | cons t l =>
  refine ⟨C.step t l hl ?_,rfl,fun _ _=>rfl⟩
  rintro ⟨_,h3⟩
  have h:((t.t.kind==5||t.t.kind==2)&&ss.contains t.t.s)=true:=h
  rw [h3] at h
  simp only [Bool.and_eq_true,List.contains_iff_mem] at h
  exact h1 h.2
theorem ExE.must (C:Ctx last' m P) {l:List Tl} {s:List UInt8} (hs:s≠[59]) (hl:P l):ExE m P (mustF last s l) (mustF last' s (l++m)):=by
 unfold mustF
 cases l with
 | nil=>exact ExE.stop
 | cons t l =>
  show ExE m P (if atF [s] (t::l)=true then _ else _) (if atF [s] (t::l)=true then _ else _)
  split
  ·rename_i h
   exact ExE.ok (at_step C (by simpa using fun e=>hs e.symm) hl h).1
  ·exact ExE.stop
theorem ExE.name (C:Ctx last' m P) {l:List Tl} (hl:P l):ExE m P (nameF last l) (nameF last' (l++m)):=by
 unfold nameF
 cases l with
 | nil=>exact ExE.stop
 | cons t l =>
  show ExE m P (if t.t.kind=1 then Rd.ok t.t.s l else _) (if t.t.kind=1 then Rd.ok t.t.s (l++m) else _)
  split
  ·rename_i h
   exact ExE.ok (C.step t l hl (by rintro ⟨h5,_⟩;omega))
  ·exact ExE.stop
theorem ExS.end_ (C:Ctx last' m P) {l:List Tl} (hl:P l):ExS m P (endF last l) (endF last' (l++m)):=by
 unfold endF
 cases l with
 | nil =>
  obtain ⟨s,rfl,h1,h2,h3⟩:=C.end_ hl
  have e:(if atF [[59]] ([]:List Tl)=true then Rd.ok () ([]:List Tl).tail else if (hereF last []).t.kind≠0∧(hereF last []).nl=false∧atF [[125]] ([]:List Tl)=false then stopF last false [] else Rd.ok () [])=Rd.ok () []:=rfl
  rw [e]
  rw [List.nil_append]
  by_cases h4:atF [[59]] [s]=true
  ·rw [if_pos h4]
   exact ExS.ok (.inr rfl) (.inr ⟨rfl,rfl,hl,h4⟩)
  ·rw [if_neg h4,if_neg (by simp [hereF,h1])]
   exact ExS.ok (.inr rfl) (.inl rfl)
 | cons t l =>
  show ExS m P (if atF [[59]] (t::l)=true then Rd.ok () l else if t.t.kind≠0∧t.nl=false∧atF [[125]] (t::l)=false then _ else Rd.ok () (t::l)) (if atF [[59]] (t::l)=true then Rd.ok () (l++m) else if t.t.kind≠0∧t.nl=false∧atF [[125]] (t::l)=false then _ else Rd.ok () (t::l++m))
  split
  ·exact ExS.ok (C.semi t l hl) (.inl rfl)
  ·split
   ·exact ExS.stop
   ·exact ExS.ok (.inl hl) (.inl rfl)
theorem signsN_no (n:Nat):¬ [59] ∈ signsN n∧¬ [125] ∈ signsN n:=by
 unfold signsN
 repeat' split
 all_goals decide
theorem bind_ok' {x:Rd α} {g : α → List Tl→Rd β} {y : β × List Tl} (h:x.bind g=some (.ok y)) : ∃ a r,x=some (.ok (a,r))∧g a r=some (.ok y):=by
 match x,h with
 | some (.error e),h=>cases h
 | some (.ok (a,r)),h=>exact ⟨a,r,rfl,h⟩
theorem ExS.ite {c:Prop} [Decidable c] {x x' y y':Rd α} (h1:c→ExS m P x y) (h2:¬ c→ExS m P x' y'):ExS m P (if c then x else x') (if c then y else y'):=by
 by_cases h:c
 ·rw [if_pos h,if_pos h];exact h1 h
 ·rw [if_neg h,if_neg h];exact h2 h
theorem ExS.none {y:Rd α}:ExS m P (none:Rd α) y:=by
 intro a r h
 cases h
variable {F G:Fns}
theorem ext_args (C:Ctx last' m P) (E:Ext m P F G) {l:List Tl} (hl:P l):ExE m P (argsF F l) (argsF G (l++m)):=by
 unfold argsF
 rw [at_app C l (by decide) (by decide)]
 split
 ·rename_i h
  obtain ⟨h1,h2,_⟩:=at_step C (by decide) hl h
  rw [h2]
  exact ExE.ok h1
 ·exact E.args _ l hl
theorem ext_names (C:Ctx last' m P) (E:Ext m P F G) {l:List Tl} (hl:P l):ExE m P (namesF F l) (namesF G (l++m)):=by
 unfold namesF
 rw [at_app C l (by decide) (by decide)]
 split
 ·rename_i h
  obtain ⟨h1,h2,_⟩:=at_step C (by decide) hl h
  rw [h2]
  exact ExE.ok h1
 ·exact E.names _ l hl
theorem ext_link (_C:Ctx last' m P) (E:Ext m P F G) {c:Bool} {x:Tree} {l:List Tl} (hl:P l):ExE m P (linkF F c x l) (linkF G c x (l++m)):=by
 unfold linkF
 refine ExE.bind (E.members true x l hl) fun y r hr => ?_
 have e:((r++m).length==(l++m).length)=(r.length==l.length):=by rw [List.length_append,List.length_append,Bool.eq_iff_iff];simp
 rw [e]
 exact ExE.ok hr
theorem ext_head (C:Ctx last' m P) (E:Ext m P F G) {l:List Tl} (hl:P l):ExE m P (headS last F l) (headS last' G (l++m)):=by
 unfold headS
 exact ExE.bind (ExE.must C (by decide) hl) fun _ r hr=>ExE.bind (E.expr r hr) fun x r2 hr2=>ExE.bind (ExE.must C (by decide) hr2) fun _ r3 hr3=>ExE.ok hr3
theorem ext_object (C:Ctx last' m P) (E:Ext m P F G) {l:List Tl} (hl:P l):ExE m P (objectS last F l) (objectS last' G (l++m)):=by
 unfold objectS
 cases l with
 | nil=>intro a r h;cases h
 | cons t l=>exact ExE.bind (ExE.must C (by decide) hl) fun _ r hr=>ExE.bind (E.pairs _ r hr) fun x r2 hr2=>ExE.ok hr2
theorem ext_expr (C:Ctx last' m P) (E:Ext m P F G) (_O:OkFns last F) {l:List Tl} (hl:P l):ExE m P (exprS F l) (exprS G (l++m)):=by
 unfold exprS
 refine ExE.bind (E.cond l hl) fun p r hr => ?_
 rw [at_app C r (by decide) (by decide)]
 split
 ·rename_i h
  simp only [Bool.and_eq_true] at h
  obtain ⟨h1,h2,_⟩:=at_step C (by decide) hr h.2
  rw [h2]
  exact ExE.bind (E.expr _ h1) fun y q hq=>ExE.ok hq
 ·exact ExE.ok hr
theorem ext_cond (C:Ctx last' m P) (E:Ext m P F G) (_O:OkFns last F) {l:List Tl} (hl:P l):ExE m P (condS last F l) (condS last' G (l++m)):=by
 unfold condS
 refine ExE.bind (E.level 0 l hl) fun p r hr => ?_
 rw [at_app C r (by decide) (by decide)]
 split
 ·rename_i h
  obtain ⟨h1,h2,_⟩:=at_step C (by decide) hr h
  rw [h2]
  exact ExE.bind (E.expr _ h1) fun y q hq=>ExE.bind (ExE.must C (by decide) hq) fun _ r3 hr3=>ExE.bind (E.expr _ hr3) fun _ _ h4=>ExE.ok h4
 ·exact ExE.ok hr
theorem ext_level (_C:Ctx last' m P) (E:Ext m P F G) (_O:OkFns last F) {n:Nat} {l:List Tl} (hl:P l):ExE m P (levelS F n l) (levelS G n (l++m)):=by
 unfold levelS
 split
 ·exact E.signed l hl
 ·exact ExE.bind (E.level _ l hl) fun p r hr=>E.more _ _ _ r hr
theorem ext_more (C:Ctx last' m P) (E:Ext m P F G) (_O:OkFns last F) {n:Nat} {x:Tree} {b:Bool} {l:List Tl} (hl:P l):ExE m P (moreS last F n x b l) (moreS last' G n x b (l++m)):=by
 unfold moreS
 rw [at_app C l (signsN_no n).1 (signsN_no n).2]
 split
 ·rename_i h
  obtain ⟨h1,h2,h3⟩:=at_step C (signsN_no n).1 hl h
  rw [h2,h3 last last']
  exact ExE.bind (E.level _ _ h1) fun p r hr=>E.more _ _ _ r hr
 ·exact ExE.ok hl
theorem ext_signed (C:Ctx last' m P) (E:Ext m P F G) (_O:OkFns last F) {l:List Tl} (hl:P l):ExE m P (signedS last F l) (signedS last' G (l++m)):=by
 unfold signedS
 rw [at_app C l (by decide) (by decide),at_app C l (by decide) (by decide)]
 split
 ·rename_i h
  obtain ⟨h1,h2,h3⟩:=at_step C (by decide) hl h
  rw [h2,h3 last last']
  exact ExE.bind (E.signed _ h1) fun p r hr=>ExE.ok hr
 ·split
  ·rename_i h
   obtain ⟨h1,h2,h3⟩:=at_step C (by decide) hl h
   rw [h2,h3 last last']
   exact ExE.bind (E.signed _ h1) fun p r hr=>ExE.ok hr
  ·exact E.chain l hl
theorem ext_chain (C:Ctx last' m P) (E:Ext m P F G) (_O:OkFns last F) {l:List Tl} (hl:P l):ExE m P (chainS last F l) (chainS last' G (l++m)):=by
 unfold chainS
 rw [at_app C l (by decide) (by decide),at_app C l (ss:=[[40]]) (by decide) (by decide)]
 split
 ·rename_i h
  obtain ⟨h1,h2,h3⟩:=at_step C (by decide) hl h
  rw [h2,h3 last last']
  refine ExE.bind (E.thing _ h1) fun x r hr=>ExE.bind (E.members false x r hr) fun y r2 hr2 => ?_
  rw [at_app C r2 (by decide) (by decide)]
  split
  ·rename_i h4
   obtain ⟨h5,h6,_⟩:=at_step C (by decide) hr2 h4
   rw [h6]
   exact ExE.bind (ext_args C E h5) fun ys r3 hr3=>ext_link C E hr3
  ·exact ext_link C E hr2
 ·exact ExE.bind (E.thing l hl) fun x r hr=>ext_link C E hr
theorem ext_members (C:Ctx last' m P) (E:Ext m P F G) (_O:OkFns last F) {b:Bool} {x:Tree} {l:List Tl} (hl:P l):ExE m P (membersS last F b x l) (membersS last' G b x (l++m)):=by
 unfold membersS
 rw [at_app C l (by decide) (by decide),at_app C l (ss:=[[91]]) (by decide) (by decide),at_app C l (ss:=[[40]]) (by decide) (by decide)]
 split
 ·rename_i h
  obtain ⟨h1,h2,_⟩:=at_step C (by decide) hl h
  rw [h2]
  cases hl2:l.tail with
  | nil =>
   rw [if_pos (by simp [hereF,Tk.zero])]
   exact ExE.stop
  | cons t r =>
   show ExE m P (if t.t.kind≠1∧t.t.kind≠2 then _ else F.members b (nd 13 t.t.s [x] x.line) r) (if t.t.kind≠1∧t.t.kind≠2 then _ else G.members b (nd 13 t.t.s [x] x.line) (r++m))
   split
   ·exact ExE.stop
   ·rename_i h5
    rw [hl2] at h1
    exact E.members _ _ r (C.step t r h1 (by rintro ⟨h6,_⟩;apply h5;omega))
 ·split
  ·rename_i h
   obtain ⟨h1,h2,_⟩:=at_step C (by decide) hl h
   rw [h2]
   exact ExE.bind (E.expr _ h1) fun y r hr=>ExE.bind (ExE.must C (by decide) hr) fun _ q hq=>E.members _ _ q hq
  ·split
   ·rename_i h
    simp only [Bool.and_eq_true] at h
    obtain ⟨h1,h2,_⟩:=at_step C (by decide) hl h.2
    rw [h2]
    exact ExE.bind (ext_args C E h1) fun ys r hr=>E.members _ _ r hr
   ·exact ExE.ok hl
theorem ext_argsS (C:Ctx last' m P) (E:Ext m P F G) (_O:OkFns last F) {a:List Tree} {l:List Tl} (hl:P l):ExE m P (argsS last F a l) (argsS last' G a (l++m)):=by
 unfold argsS
 refine ExE.bind (E.expr l hl) fun x r hr => ?_
 rw [at_app C r (by decide) (by decide)]
 split
 ·rename_i h
  obtain ⟨h1,h2,_⟩:=at_step C (by decide) hr h
  rw [h2]
  exact E.args _ _ h1
 ·exact ExE.bind (ExE.must C (by decide) hr) fun _ q hq=>ExE.ok hq
theorem ext_namesS (C:Ctx last' m P) (E:Ext m P F G) (_O:OkFns last F) {a:List Tree} {l:List Tl} (hl:P l):ExE m P (namesS last F a l) (namesS last' G a (l++m)):=by
 unfold namesS
 cases l with
 | nil=>intro a r h;cases h
 | cons t l =>
  refine ExE.bind (ExE.name C hl) fun x r hr => ?_
  show ExE m P (if atF [[44]] r=true then _ else _) (if atF [[44]] (r++m)=true then G.names (a++[nd 1 x [] t.line]) (r++m).tail else (mustF last' [41] (r++m)).bind fun _ q=>Rd.ok (a++[nd 1 x [] t.line]) q)
  rw [at_app C r (by decide) (by decide)]
  split
  ·rename_i h
   obtain ⟨h1,h2,_⟩:=at_step C (by decide) hr h
   rw [h2]
   exact E.names _ _ h1
  ·exact ExE.bind (ExE.must C (by decide) hr) fun _ q hq=>ExE.ok hq
theorem ext_pairs (C:Ctx last' m P) (E:Ext m P F G) (_O:OkFns last F) {a:List Tree} {l:List Tl} (hl:P l):ExE m P (pairsS last F a l) (pairsS last' G a (l++m)):=by
 unfold pairsS
 cases l with
 | nil =>
  have e:keyB (hereF last [])=false:=rfl
  rw [if_neg (show ¬ (atF [[125]] ([]:List Tl)=true) by decide),if_pos e]
  exact ExE.stop
 | cons t l =>
  show ExE m P (if atF [[125]] (t::l)=true then Rd.ok a l else _) (if atF [[125]] (t::l)=true then Rd.ok a (l++m) else if keyB t=false then _ else if t.t.kind=1∧(t.t.s=[103,101,116]∨t.t.s=[115,101,116])∧keyB (hereF last' (l++m))=true then _ else (mustF last' [58] (l++m)).bind fun _ r=>(G.expr r).bind fun x r2=>if atF [[44]] r2=true then G.pairs (a++[nd 12 (if t.t.kind=3 then Lib.itoa t.t.n else t.t.s) [x] t.line]) r2.tail else (mustF last' [125] r2).bind fun _ q=>Rd.ok (a++[nd 12 (if t.t.kind=3 then Lib.itoa t.t.n else t.t.s) [x] t.line]) q)
  split
  ·rename_i h
   exact ExE.ok (at_step C (by decide) hl h).1
  ·show ExE m P (if keyB t=false then _ else if t.t.kind=1∧(t.t.s=[103,101,116]∨t.t.s=[115,101,116])∧keyB (hereF last l)=true then _ else (mustF last [58] l).bind fun _ r=>(F.expr r).bind fun x r2=>if atF [[44]] r2=true then F.pairs (a++[nd 12 (if t.t.kind=3 then Lib.itoa t.t.n else t.t.s) [x] t.line]) r2.tail else (mustF last [125] r2).bind fun _ q=>Rd.ok (a++[nd 12 (if t.t.kind=3 then Lib.itoa t.t.n else t.t.s) [x] t.line]) q) _
   split
   ·exact ExE.stop
   ·rename_i hk
    have hp:P l:=C.step t l hl (by
     rintro ⟨h5,_⟩
     apply hk
     unfold keyB
     rw [h5]
     decide)
    split
    ·exact ExE.fail
    ·rename_i hg
     cases l with
     | nil=>intro a r h;cases h
     | cons u l =>
      rw [if_neg (show ¬ (t.t.kind=1∧(t.t.s=[103,101,116]∨t.t.s=[115,101,116])∧keyB (hereF last' (u::l++m))=true) from hg)]
      refine ExE.bind (ExE.must C (by decide) hp) fun _ r hr=>ExE.bind (E.expr r hr) fun x r2 hr2 => ?_
      rw [at_app C r2 (by decide) (by decide)]
      split
      ·rename_i h
       obtain ⟨h1,h2,_⟩:=at_step C (by decide) hr2 h
       rw [h2]
       exact E.pairs _ _ h1
      ·exact ExE.bind (ExE.must C (by decide) hr2) fun _ q hq=>ExE.ok hq
theorem ext_rest (C:Ctx last' m P) (E:Ext m P F G) (_O:OkFns last F) {l:List Tl} (hl:P l):ExE m P (restS last F l) (restS last' G (l++m)):=by
 unfold restS
 exact ExE.bind (ExE.must C (by decide) hl) fun _ r hr=>ExE.bind (ext_names C E hr) fun ps r2 hr2=>ExE.bind (E.block r2 hr2) fun b q hq=>ExE.ok hq
theorem ext_thing (C:Ctx last' m P) (E:Ext m P F G) (O:OkFns last F) {l:List Tl} (hl:P l):ExE m P (thingS last F l) (thingS last' G (l++m)):=by
 cases l with
 | nil=>intro a r h;cases h
 | cons t l =>
  unfold thingS
  simp only
  have e1:hereF last (t::l)=t:=rfl
  have e2:hereF last' (t::l++m)=t:=rfl
  have e3:(t::l).tail=l:=rfl
  have e4:(t::l++m).tail=l++m:=rfl
  rw [e1,e2,e3,e4,at_app C (t::l) (ss:=[[40]]) (by decide) (by decide),at_app C (t::l) (ss:=[[123]]) (by decide) (by decide),at_app C (t::l) (ss:=[[102,117,110,99,116,105,111,110]]) (by decide) (by decide)]
  split
  ·rename_i hk
   split
   ·exact ExE.fail
   ·exact ExE.ok (C.step t l hl (by rintro ⟨h5,_⟩;omega))
  ·split
   ·exact ExE.ok (C.step t l hl (by rintro ⟨h5,_⟩;omega))
   ·split
    ·exact ExE.ok (C.step t l hl (by rintro ⟨h5,_⟩;omega))
    ·split
     ·exact ext_head C E hl
     ·split
      ·exact ext_object C E hl
      ·split
       ·rename_i h
        have hp:P l:=(at_step C (by decide) hl h).1
        cases l with
        | nil =>
         rw [if_neg (by simp [hereF,Tk.zero])]
         intro a r h
         exfalso
         have h0:=(ExE.bind (m:=m) (P:=P) (E.rest [] hp) (g:=fun ps r=>Rd.ok (nd 10 [] ps t.line) r) (k:=fun ps r=>Rd.ok (nd 10 [] ps t.line) r) fun _ _ hr=>ExE.ok hr)
         cases hr:F.rest [] with
         | none=>rw [hr] at h;cases h
         | some z =>
          match z,hr with
          | .error e,hr=>rw [hr] at h;cases h
          | .ok (ps,r2),hr =>
           have:=((O.rest []).1 _ _ hr).2
           simp at this
        | cons u l =>
         have e5:hereF last (u::l)=u:=rfl
         have e6:hereF last' (u::l++m)=u:=rfl
         rw [e5,e6]
         split
         ·rename_i hk
          exact ExE.bind (E.rest l (C.step u l hp (by rintro ⟨h5,_⟩;omega))) fun _ _ hr=>ExE.ok hr
         ·exact ExE.bind (E.rest (u::l) hp) fun _ _ hr=>ExE.ok hr
       ·split
        ·rename_i hk
         exact ExE.ok (C.step t l hl (by rintro ⟨h5,_⟩;omega))
        ·exact ExE.stop
theorem ext_block (C:Ctx last' m P) (E:Ext m P F G) (O:OkFns last F) {l:List Tl} (hl:P l):ExE m P (blockS last F l) (blockS last' G (l++m)):=by
 unfold blockS
 cases l with
 | nil=>intro a r h;cases h
 | cons t l =>
  refine ExE.bind (ExE.must C (by decide) hl) fun _ r hr => ?_
  intro a q hq
  show _∧(Rd.bind (G.stmts [] (r++m)) fun ps r2=>(mustF last' [125] r2).bind fun _ q=>Rd.ok (nd 32 [] ps t.line) q)=_
  cases hs:F.stmts [] r with
  | none=>rw [hs] at hq;cases hq
  | some z =>
   rw [hs] at hq
   match z,hs,hq with
   | .error e,_,hq=>cases hq
   | .ok (ps,r2),hs,hq =>
    have hq:(mustF last [125] r2).bind (fun _ q=>Rd.ok (nd 32 [] ps t.line) q)=some (.ok (a,q)):=hq
    have hne:r2≠[]:=by rintro rfl;cases hq
    have hp:P r2:=C.suf r r2 hr ((O.stmts [] r).1 _ _ hs).1 hne
    obtain ⟨r3,h3,h4⟩:=E.stmts [] r hr ps r2 hs hp
    rw [h3]
    rcases h4 with rfl | ⟨h4,_⟩
    ·exact ExE.bind (x:=mustF last [125] r2) (y:=mustF last' [125] (r2++m)) (g:=fun _ q=>Rd.ok (nd 32 [] ps t.line) q) (k:=fun _ q=>Rd.ok (nd 32 [] ps t.line) q) (ExE.must C (by decide) hp) (fun _ _ h=>ExE.ok h) a q hq
    ·exact absurd h4 hne
theorem stmts_nil {f:Nat} {ps:List Tree} {r:List Tl} {a:List Tree} (h:(fns last f).stmts a []=some (.ok (ps,r))):ps=a∧r=[]:=by
 cases f with
 | zero=>cases h
 | succ f =>
  have h:some (Except.ok (a,([]:List Tl)))=some (.ok (ps,r)):=h
  injection h with h
  injection h with h
  injection h with h1 h2
  exact ⟨h1.symm,h2.symm⟩
theorem ext_stmts (C:Ctx last' m P) (E:Ext m P F G) (_O:OkFns last F) (hF : ∀ a ps r,F.stmts a []=some (.ok (ps,r))→ps=a∧r=[]) (hG : ∀ a,G.stmts a []=Rd.ok a []) {a:List Tree} {l:List Tl} (hl:P l) : ∀ ps r,stmtsS last F a l=some (.ok (ps,r))→P r → ∃ r',stmtsS last' G a (l++m)=some (.ok (ps,r'))∧RelS m P r r':=by
 intro ps r h hr
 unfold stmtsS at h ⊢
 cases l with
 | nil =>
  have h:some (Except.ok (a,([]:List Tl)))=some (.ok (ps,r)):=h
  injection h with h
  injection h with h
  injection h with h1 h2
  subst h1 h2
  obtain ⟨s,rfl,h1,h2,h3⟩:=C.end_ hl
  rw [List.nil_append]
  have e:hereF last' [s]=s:=rfl
  rw [e,if_neg (by omega)]
  rcases h3 with h3 | h3
  ·have h6:atF [[59]] [s]=true:=by (show ((s.t.kind==5||s.t.kind==2)&&[[59]].contains s.t.s)=true);rw [h2,h3];decide
   have h7:¬ atF [[125]] [s]=true:=by (show ¬ ((s.t.kind==5||s.t.kind==2)&&[[125]].contains s.t.s)=true);rw [h2,h3];decide
   rw [if_neg h7,if_pos h6]
   exact ⟨[],hG a,.inr ⟨rfl,rfl,hl,h6⟩⟩
  ·have h7:atF [[125]] [s]=true:=by (show ((s.t.kind==5||s.t.kind==2)&&[[125]].contains s.t.s)=true);rw [h2,h3];decide
   rw [if_pos h7]
   exact ⟨[s],rfl,.inl rfl⟩
 | cons t l =>
  have h:(if t.t.kind=0 then Rd.ok a (t::l) else if atF [[125]] (t::l)=true then Rd.ok a (t::l) else if atF [[59]] (t::l)=true then F.stmts a l else (F.stmt (t::l)).bind fun x r=>F.stmts (a++[x]) r)=some (.ok (ps,r)):=h
  show ∃ r',(if t.t.kind=0 then Rd.ok a (t::l++m) else if atF [[125]] (t::l)=true then Rd.ok a (t::l++m) else if atF [[59]] (t::l)=true then G.stmts a (l++m) else (G.stmt (t::l++m)).bind fun x r=>G.stmts (a++[x]) r)=some (.ok (ps,r'))∧_
  have hdone:Rd.ok a (t::l)=some (.ok (ps,r)) → ∃ r',Rd.ok a (t::l++m)=some (.ok (ps,r'))∧RelS m P r r':=by
   intro h
   injection h with h
   injection h with h
   injection h with h1 h2
   subst h1 h2
   exact ⟨_,rfl,.inl rfl⟩
  split at h
  ·rw [if_pos (by assumption)]
   exact hdone h
  ·rw [if_neg (by assumption)]
   split at h
   ·rw [if_pos (by assumption)]
    exact hdone h
   ·rw [if_neg (by assumption)]
    split at h
    ·rw [if_pos (by assumption)]
     rcases C.semi t l hl with h1 | rfl
     ·exact E.stmts a l h1 ps r h hr
     ·obtain ⟨rfl,rfl⟩:=hF _ _ _ h
      exact E.stmts _ [] hr _ _ h hr
    ·rw [if_neg (by assumption)]
     rcases bind_ok' h with ⟨x,r1,h1,h2⟩
     obtain ⟨h3,r1',h4,h5⟩:=E.stmt _ hl _ _ h1
     rw [h4]
     show ∃ r',G.stmts (a++[x]) r1'=_∧_
     rcases h5 with rfl | ⟨rfl,rfl,h6,h7⟩
     ·have hp:P r1:=by
       rcases h3 with h3 | rfl
       ·exact h3
       ·obtain ⟨rfl,rfl⟩:=hF _ _ _ h2
        exact hr
      exact E.stmts _ r1 hp ps r h2 hr
     ·obtain ⟨rfl,rfl⟩:=hF _ _ _ h2
      exact ⟨[],hG _,.inr ⟨rfl,rfl,h6,h7⟩⟩
theorem ext_within (C:Ctx last' m P) (E:Ext m P F G) (O:OkFns last F) {l:List Tl} (hl:P l):ExS m P (withinS last F l) (withinS last' G (l++m)):=by
 unfold withinS
 cases l with
 | nil =>
  intro a r h
  exfalso
  rcases bind_ok' (show (F.stmt []).bind _=_ from h) with ⟨x,r1,h1,_⟩
  have:=((O.stmt []).1 _ _ h1).2
  simp at this
 | cons t l =>
  show ExS m P (if atF [[123]] (t::l)=true then F.block (t::l) else if atF [[59]] (t::l)=true then Rd.ok (nd 32 [] [] t.line) l else (F.stmt (t::l)).bind fun x r=>Rd.ok (nd 32 [] [x] t.line) r) (if atF [[123]] (t::l)=true then G.block (t::l++m) else if atF [[59]] (t::l)=true then Rd.ok (nd 32 [] [] t.line) (l++m) else (G.stmt (t::l++m)).bind fun x r=>Rd.ok (nd 32 [] [x] t.line) r)
  split
  ·exact (E.block _ hl).toS
  ·split
   ·exact ExS.ok (C.semi t l hl) (.inl rfl)
   ·exact ExS.bind (E.stmt _ hl) fun _ _ _ h1 h2=>ExS.ok h1 h2
theorem endAll (C:Ctx last' m P) (_E:Ext m P F G) (_O:OkFns last F) {a:Tree} {r:List Tl} (hr:P r):ExS m P ((endF last r).bind fun _ q=>Rd.ok a q) ((endF last' (r++m)).bind fun _ q=>Rd.ok a q):=ExS.bind (ExS.end_ C hr) fun _ _ _ h1 h2=>ExS.ok h1 h2
theorem ext_word (C:Ctx last' m P) (E:Ext m P F G) (O:OkFns last F) {s:List UInt8} {i:Int} {l:List Tl} (hl:P l):ExS m P (wordS last F s i l) (wordS last' G s i (l++m)):=by
 unfold wordS
 refine ExS.ite (fun _ => ?_) fun _=>ExS.ite (fun _ => ?_) fun _=>ExS.ite (fun _ => ?_) fun _=>ExS.ite (fun _ => ?_) fun _=>ExS.ite (fun _ => ?_) fun _=>ExS.ite (fun _ => ?_) fun _=>ExS.ite (fun _ => ?_) fun _=>ExS.ite (fun _ => ?_) fun _=>ExS.ite (fun _ => ?_) fun _ => ?_
 ·refine ExE.bindS (ExE.name C hl) fun x r hr => ?_
  rw [at_app C r (by decide) (by decide)]
  split
  ·rename_i h
   obtain ⟨h1,h2,_⟩:=at_step C (by decide) hr h
   rw [h2]
   exact ExE.bindS (E.expr _ h1) fun y r2 hr2=>endAll C E O hr2
  ·exact endAll C E O hr
 ·refine ExE.bindS (ext_head C E hl) fun x r hr=>ExS.bind (E.within r hr) fun y r2 r2' h1 h2 => ?_
  rcases h2 with rfl | ⟨rfl,rfl,h3,h4⟩
  ·rw [at_app C r2 (by decide) (by decide)]
   split
   ·rename_i h
    have hp:P r2:=by
     rcases h1 with h1 | rfl
     ·exact h1
     ·cases h
    obtain ⟨h5,h6,_⟩:=at_step C (by decide) hp h
    rw [h6]
    exact ExS.bind (E.within _ h5) fun _ _ _ h1 h2=>ExS.ok h1 h2
   ·exact ExS.ok h1 (.inl rfl)
  ·exact ExS.ok h1 (.inr ⟨rfl,rfl,h3,h4⟩)
 ·exact ExE.bindS (ext_head C E hl) fun x r hr=>ExS.bind (E.within r hr) fun y r2 r2' h1 h2=>ExS.ok h1 h2
 ·refine ExE.bindS (ExE.must C (by decide) hl) fun _ r hr => ?_
  rw [at_app C r (by decide) (by decide)]
  split
  ·rename_i h
   obtain ⟨h1,h2,_⟩:=at_step C (by decide) hr h
   rw [h2]
   exact ExE.bindS (ExE.name C h1) fun x r2 hr2=>ExE.bindS (ExE.must C (by decide) hr2) fun _ r3 hr3=>ExE.bindS (E.expr r3 hr3) fun y r4 hr4=>ExE.bindS (ExE.must C (by decide) hr4) fun _ r5 hr5=>ExS.bind (E.within r5 hr5) fun _ _ _ h1 h2=>ExS.ok h1 h2
  ·intro a q h
   exfalso
   revert h
   split
   ·intro h;cases h
   ·intro h;cases h
 ·cases l with
  | nil =>
   rw [if_neg (by simp [hereF,Tk.zero])]
   obtain ⟨s,rfl,h1,h2,h3⟩:=C.end_ hl
   rw [if_neg (show ¬ ((hereF last' ([]++[s])).t.kind≠0∧(hereF last' ([]++[s])).nl=false∧atF [[59],[125]] ([]++[s])=false) by simp [hereF,h1])]
   exact endAll C E O hl
  | cons t l =>
   show ExS m P (if t.t.kind≠0∧t.nl=false∧atF [[59],[125]] (t::l)=false then _ else _) (if t.t.kind≠0∧t.nl=false∧atF [[59],[125]] (t::l)=false then _ else _)
   split
   ·exact ExE.bindS (E.expr _ hl) fun y r2 hr2=>endAll C E O hr2
   ·exact endAll C E O hl
 ·cases l with
  | nil =>
   intro a r h
   exfalso
   rcases bind_ok' (show (F.expr []).bind _=_ from h) with ⟨x,r1,h1,_⟩
   have:=((O.expr []).1 _ _ h1).2
   simp at this
  | cons t l =>
   show ExS m P (if t.nl=true then _ else _) (if t.nl=true then _ else _)
   split
   ·exact ExS.stop
   ·exact ExE.bindS (E.expr _ hl) fun y r2 hr2=>endAll C E O hr2
 ·exact ExE.bindS (E.block l hl) fun x r hr=>ExE.bindS (ExE.must C (by decide) hr) fun _ r2 hr2=>ExE.bindS (ExE.must C (by decide) hr2) fun _ r3 hr3=>ExE.bindS (ExE.name C hr3) fun y r4 hr4=>ExE.bindS (ExE.must C (by decide) hr4) fun _ r5 hr5=>ExE.bindS (E.block r5 hr5) fun z q hq=>(ExE.ok hq).toS
 ·exact endAll C E O hl
 ·exact endAll C E O hl
 ·exact ExE.bindS (ExE.name C hl) fun x r hr=>ExE.bindS (E.rest r hr) fun ps q hq=>(ExE.ok hq).toS
theorem ext_stmt (C:Ctx last' m P) (E:Ext m P F G) (O:OkFns last F) {l:List Tl} (hl:P l):ExS m P (stmtS last F l) (stmtS last' G (l++m)):=by
 unfold stmtS
 cases l with
 | nil =>
  intro a r h
  exfalso
  rcases bind_ok' (show (F.expr []).bind _=_ from h) with ⟨x,r1,h1,_⟩
  have:=((O.expr []).1 _ _ h1).2
  simp at this
 | cons t l =>
  have e1:hereF last (t::l)=t:=rfl
  have e2:hereF last' (t::l++m)=t:=rfl
  have e3:(t::l).tail=l:=rfl
  have e4:(t::l++m).tail=l++m:=rfl
  rw [e1,e2,e3,e4,at_app C (t::l) (ss:=[[123]]) (by decide) (by decide)]
  refine ExS.ite (fun _=>(E.block _ hl).toS) fun _=>ExS.ite (fun h=>E.word _ _ l (C.step t l hl (by rintro ⟨h5,_⟩;have:=h.1;omega))) fun _ => ?_
  have he:((hereF 0 (l++m)).t.kind=5∧(hereF 0 (l++m)).t.s=[58]) ↔ ((hereF 0 l).t.kind=5∧(hereF 0 l).t.s=[58]):=by
   cases l with
   | nil =>
    constructor
    ·intro h;exact absurd h C.lab
    ·rintro ⟨h,_⟩;simp [hereF,Tk.zero] at h
   | cons u l=>exact Iff.rfl
  by_cases hc:t.t.kind=1∧forbF t.t.s=false∧(hereF 0 l).t.kind=5∧(hereF 0 l).t.s=[58]
  ·rw [if_pos hc]
   exact ExS.fail
  ·rw [if_neg hc,if_neg (by intro h;exact hc ⟨h.1,h.2.1,he.1 h.2.2⟩)]
   exact ExE.bindS (E.expr _ hl) fun y r2 hr2=>endAll C E O hr2
theorem ext_step (C:Ctx last' m P) (E:Ext m P F G) (O:OkFns last F) (hF : ∀ a ps r,F.stmts a []=some (.ok (ps,r))→ps=a∧r=[]) (hG : ∀ a,G.stmts a []=Rd.ok a []):Ext m P (stepFns last F) (stepFns last' G) where
 expr _ hl:=ext_expr C E O hl
 cond _ hl:=ext_cond C E O hl
 level _ _ hl:=ext_level C E O hl
 more _ _ _ _ hl:=ext_more C E O hl
 signed _ hl:=ext_signed C E O hl
 chain _ hl:=ext_chain C E O hl
 members _ _ _ hl:=ext_members C E O hl
 thing _ hl:=ext_thing C E O hl
 args _ _ hl:=ext_argsS C E O hl
 pairs _ _ hl:=ext_pairs C E O hl
 names _ _ hl:=ext_namesS C E O hl
 rest _ hl:=ext_rest C E O hl
 block _ hl:=ext_block C E O hl
 stmts _ _ hl:=ext_stmts C E O hF hG hl
 within _ hl:=ext_within C E O hl
 stmt _ hl:=ext_stmt C E O hl
 word _ _ _ hl:=ext_word C E O hl
theorem ext_all (C:Ctx last' m P) : ∀ f,Ext m P (fns last f) (fixF last')
 | 0=>by
  constructor
  all_goals intros
  all_goals first
   | exact ExE.none
   | exact ExS.none
   | exact absurd (by assumption) (show ¬ (none=some _) by simp)
   | (rename_i h _;cases h)
 | f+1=>by
  have h:=ext_step (last:=last) (last':=last') C (ext_all C f) (okFns last f) (fun _ _ _ h=>stmts_nil h) (fun a=>by rw [← fix_eq];rfl)
  rw [fix_eq] at h
  exact h
theorem ext_fix (C:Ctx last' m P):Ext m P (fixF last) (fixF last') where
 expr l:=(ext_all (last:=last) C (fuel1 l+1)).expr l
 cond l:=(ext_all (last:=last) C (fuel1 l+1)).cond l
 level n l:=(ext_all (last:=last) C (fuel1 l+1)).level n l
 more n x b l:=(ext_all (last:=last) C (fuel1 l+1)).more n x b l
 signed l:=(ext_all (last:=last) C (fuel1 l+1)).signed l
 chain l:=(ext_all (last:=last) C (fuel1 l+1)).chain l
 members b x l:=(ext_all (last:=last) C (fuel1 l+1)).members b x l
 thing l:=(ext_all (last:=last) C (fuel1 l+1)).thing l
 args a l:=(ext_all (last:=last) C (fuel1 l+1)).args a l
 pairs a l:=(ext_all (last:=last) C (fuel1 l+1)).pairs a l
 names a l:=(ext_all (last:=last) C (fuel1 l+1)).names a l
 rest l:=(ext_all (last:=last) C (fuel1 l+1)).rest l
 block l:=(ext_all (last:=last) C (fuel1 l+1)).block l
 stmts a l:=(ext_all (last:=last) C (fuel1 l+1)).stmts a l
 within l:=(ext_all (last:=last) C (fuel1 l+1)).within l
 stmt l:=(ext_all (last:=last) C (fuel1 l+1)).stmt l
 word s i l:=(ext_all (last:=last) C (fuel1 l+1)).word s i l
end
end Go.Proofs.YtjjdmiaonkailaaGreatDoor
