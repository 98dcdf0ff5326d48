/- Walks and plain laws, packed: ParA, ParB, ParC. -/
import Derived.Test.YtjjdmiaonkailaaGreatDoorK02
namespace Go.Proofs.YtjjdmiaonkailaaGreatDoor
section
open Go.RowKit
def Ok {α : Type} (last:Nat) (L:List Tl) (n:Nat) (x:Rd α):Prop :=
 (∀ a r,x=some (.ok (a,r))→r <:+ L∧r.length<n) ∧ ∀ c ln,x=some (.error (c,ln))→ln=(last:Int) ∨ ∃ t,t ∈ L∧ln=(t.line:Int)
variable {α β : Type} {last n m:Nat} {L l r:List Tl}
theorem Ok.none:Ok last L n (none:Rd α):=by
 constructor
 ·intro a r h
  cases h
 ·intro c ln h
  cases h
theorem Ok.ok {a : α} (hs:r <:+ L) (hn:r.length<n):Ok last L n (Rd.ok a r):=by
 constructor
 ·intro a' r' h
  injection h with h
  injection h with h
  injection h with _ h
  subst h
  exact ⟨hs,hn⟩
 ·intro c ln h
  injection h with h
  cases h
theorem here_line (last:Nat) (l:List Tl):((hereF last l).line:Int)=last ∨ ∃ t,t ∈ l∧((hereF last l).line:Int)=t.line:=by
 cases l with
 | nil=>exact .inl rfl
 | cons t l=>exact .inr ⟨t,by simp,rfl⟩
theorem Ok.fail {e:Int} (hs:l <:+ L):Ok last L n (failF last e l:Rd α):=by
 constructor
 ·intro a r h
  injection h with h
  cases h
 ·intro c ln h
  injection h with h
  injection h with h
  injection h with _ h
  subst h
  rcases here_line last l with h | ⟨t,ht,h⟩
  ·exact .inl h
  ·exact .inr ⟨t,hs.subset ht,h⟩
theorem Ok.stop {b:Bool} (hs:l <:+ L):Ok last L n (stopF last b l:Rd α):=Ok.fail hs
theorem Ok.bind {x:Rd α} {g : α → List Tl→Rd β} (hx:Ok last L n x) (hg : ∀ a r,r <:+ L→r.length<n→Ok last L m (g a r)):Ok last L m (x.bind g):=by
 match x,hx with
 | .none,_=>exact Ok.none
 | some (.error e),hx =>
  refine ⟨fun _ _ h => ?_,fun c ln h => ?_⟩
  ·simp [Rd.bind] at h
  ·have h:some (Except.error e)=some (Except.error (c,ln)):=h
   injection h with h
   injection h with h
   exact hx.2 c ln (by rw [h])
 | some (.ok (a,r)),hx=>exact hg a r (hx.1 a r rfl).1 (hx.1 a r rfl).2
theorem Ok.sub {x:Rd α} (hx:Ok last l n x) (hs:l <:+ L) (hn:n≤m):Ok last L m x :=
 ⟨fun a r h=>⟨(hx.1 a r h).1.trans hs,Nat.lt_of_lt_of_le (hx.1 a r h).2 hn⟩,fun c ln h=>(hx.2 c ln h).imp id fun ⟨t,ht,h⟩=>⟨t,hs.subset ht,h⟩⟩
theorem at_len {ss:List (List UInt8)} (h:atF ss l=true):l.tail.length+1=l.length:=by
 cases l with
 | nil=>simp [atF] at h
 | cons t l=>simp
theorem kind_len {k:Int} (hk:k≠0) (h:(hereF last l).t.kind=k):l.tail.length+1=l.length:=by
 cases l with
 | nil=>exact absurd h.symm hk
 | cons t l=>simp
theorem kind_len' (h:(hereF last l).t.kind≠0):l.tail.length+1=l.length:=by
 cases l with
 | nil=>exact absurd rfl h
 | cons t l=>simp
theorem tail_suf:l.tail <:+ l:=List.tail_suffix l
theorem Ok.must {s:List UInt8} (hs:l <:+ L) (hn:l.length≤n):Ok last L n (mustF last s l):=by
 unfold mustF
 split
 ·rename_i h
  have:=at_len h
  exact Ok.ok (tail_suf.trans hs) (by omega)
 ·exact Ok.stop hs
theorem Ok.name (hs:l <:+ L) (hn:l.length≤n):Ok last L n (nameF last l):=by
 unfold nameF
 split
 ·rename_i h
  have:=kind_len (by decide) h
  exact Ok.ok (tail_suf.trans hs) (by omega)
 ·exact Ok.stop hs
theorem Ok.end_ (hs:l <:+ L) (hn:l.length<n):Ok last L n (endF last l):=by
 unfold endF
 split
 ·exact Ok.ok (tail_suf.trans hs) (by rw [List.length_tail];omega)
 ·split
  ·exact Ok.stop hs
  ·exact Ok.ok hs hn
structure OkFns (last:Nat) (F:Fns):Prop where
 expr : ∀ l,Ok last l l.length (F.expr l)
 cond : ∀ l,Ok last l l.length (F.cond l)
 level : ∀ n l,Ok last l l.length (F.level n l)
 more : ∀ n x b l,Ok last l (l.length+1) (F.more n x b l)
 signed : ∀ l,Ok last l l.length (F.signed l)
 chain : ∀ l,Ok last l l.length (F.chain l)
 members : ∀ b x l,Ok last l (l.length+1) (F.members b x l)
 thing : ∀ l,Ok last l l.length (F.thing l)
 args : ∀ a l,Ok last l l.length (F.args a l)
 pairs : ∀ a l,Ok last l l.length (F.pairs a l)
 names : ∀ a l,Ok last l l.length (F.names a l)
 rest : ∀ l,Ok last l l.length (F.rest l)
 block : ∀ l,Ok last l l.length (F.block l)
 stmts : ∀ a l,Ok last l (l.length+1) (F.stmts a l)
 within : ∀ l,Ok last l l.length (F.within l)
 stmt : ∀ l,Ok last l l.length (F.stmt l)
 word : ∀ s i l,Ok last l (l.length+1) (F.word s i l)
variable {F:Fns}
theorem ok_args (h:OkFns last F) (hs:l <:+ L) (hn:l.length≤n):Ok last L n (argsF F l):=by
 unfold argsF
 split
 ·rename_i h1
  have:=at_len h1
  exact Ok.ok (tail_suf.trans hs) (by omega)
 ·exact (h.args _ l).sub hs hn
theorem ok_names (h:OkFns last F) (hs:l <:+ L) (hn:l.length≤n):Ok last L n (namesF F l):=by
 unfold namesF
 split
 ·rename_i h1
  have:=at_len h1
  exact Ok.ok (tail_suf.trans hs) (by omega)
 ·exact (h.names _ l).sub hs hn
theorem ok_link (h:OkFns last F) {c:Bool} {x:Tree} (hs:l <:+ L) (hn:l.length<n):Ok last L n (linkF F c x l):=by
 unfold linkF
 exact Ok.bind ((h.members true x l).sub hs (Nat.le_refl _)) fun y r hr hl=>Ok.ok hr (by omega)
theorem ok_head (h:OkFns last F) (hs:l <:+ L) (hn:l.length≤n):Ok last L n (headS last F l):=by
 unfold headS
 exact Ok.bind (Ok.must hs (Nat.le_refl _)) fun _ r hr h1=>Ok.bind ((h.expr r).sub hr (Nat.le_refl _)) fun x r2 hr2 h2=>Ok.bind (Ok.must hr2 (Nat.le_refl _)) fun _ r3 hr3 h3=>Ok.ok hr3 (by omega)
theorem ok_object (h:OkFns last F) (hs:l <:+ L) (hn:l.length≤n):Ok last L n (objectS last F l):=by
 unfold objectS
 exact Ok.bind (Ok.must hs (Nat.le_refl _)) fun _ r hr h1=>Ok.bind ((h.pairs _ r).sub hr (Nat.le_refl _)) fun ps q hq h2=>Ok.ok hq (by omega)
theorem here_one {t:Tl} (l:List Tl):hereF last (t::l)=t:=rfl
theorem okStep (h:OkFns last F):OkFns last (stepFns last F) where
 expr l:=by
  show Ok last l _ (exprS F l)
  unfold exprS
  refine Ok.bind (h.cond l) fun p r hr h1 => ?_
  split
  ·exact Ok.bind ((h.expr r.tail).sub (tail_suf.trans hr) (Nat.le_refl _)) fun y q hq h2=>Ok.ok hq (by rw [List.length_tail] at h2;omega)
  ·exact Ok.ok hr h1
 cond l:=by
  show Ok last l _ (condS last F l)
  unfold condS
  refine Ok.bind (h.level 0 l) fun p r hr h1 => ?_
  split
  ·exact Ok.bind ((h.expr r.tail).sub (tail_suf.trans hr) (Nat.le_refl _)) fun a r2 hr2 h2=>Ok.bind (Ok.must hr2 (Nat.le_refl _)) fun _ r3 hr3 h3 =>
    Ok.bind ((h.expr r3).sub hr3 (Nat.le_refl _)) fun b r4 hr4 h4=>Ok.ok hr4 (by rw [List.length_tail] at h2;omega)
  ·exact Ok.ok hr h1
 level n l:=by
  show Ok last l _ (levelS F n l)
  unfold levelS
  split
  ·exact h.signed l
  ·exact Ok.bind (h.level (n+1) l) fun p r hr h1=>(h.more n p.1 p.2 r).sub hr (by omega)
 more n x b l:=by
  show Ok last l _ (moreS last F n x b l)
  unfold moreS
  split
  ·rename_i h0
   have:=at_len h0
   exact Ok.bind ((h.level (n+1) l.tail).sub tail_suf (Nat.le_refl _)) fun p r hr h1=>(h.more n _ false r).sub hr (by omega)
  ·exact Ok.ok (List.suffix_refl l) (by omega)
 signed l:=by
  show Ok last l _ (signedS last F l)
  unfold signedS
  split
  ·rename_i h0
   have:=at_len h0
   exact Ok.bind ((h.signed l.tail).sub tail_suf (Nat.le_refl _)) fun p r hr h1=>Ok.ok hr (by omega)
  ·split
   ·rename_i h0
    have:=at_len h0
    exact Ok.bind ((h.signed l.tail).sub tail_suf (Nat.le_refl _)) fun p r hr h1=>Ok.ok hr (by omega)
   ·exact h.chain l
 chain l:=by
  show Ok last l _ (chainS last F l)
  unfold chainS
  split
  ·rename_i h0
   have:=at_len h0
   refine Ok.bind ((h.thing l.tail).sub tail_suf (Nat.le_refl _)) fun x r hr h1=>Ok.bind ((h.members false x r).sub hr (Nat.le_refl _)) fun y r2 hr2 h2 => ?_
   split
   ·exact Ok.bind (ok_args h (tail_suf.trans hr2) (Nat.le_refl _)) fun ys r3 hr3 h3=>ok_link h hr3 (by rw [List.length_tail] at h3;omega)
   ·exact ok_link h hr2 (by omega)
  ·exact Ok.bind (h.thing l) fun x r hr h1=>ok_link h hr h1
 members b x l:=by
  show Ok last l _ (membersS last F b x l)
  unfold membersS
  split
  ·rename_i h0
   split
   ·exact Ok.stop tail_suf
   ·exact (h.members b _ l.tail.tail).sub (tail_suf.trans tail_suf) (by simp only [List.length_tail];omega)
  ·split
   ·exact Ok.bind ((h.expr l.tail).sub tail_suf (Nat.le_refl _)) fun y r hr h1=>Ok.bind (Ok.must hr (Nat.le_refl _)) fun _ q hq h2=>(h.members b _ q).sub hq (by rw [List.length_tail] at h1;omega)
   ·split
    ·exact Ok.bind (ok_args h tail_suf (Nat.le_refl _)) fun ys r hr h1=>(h.members b _ r).sub hr (by rw [List.length_tail] at h1;omega)
    ·exact Ok.ok (List.suffix_refl l) (by omega)
 thing l:=by
  show Ok last l _ (thingS last F l)
  unfold thingS
  simp only
  split
  ·rename_i h0
   have:=kind_len (by decide) h0
   split
   ·exact Ok.fail (List.suffix_refl l)
   ·exact Ok.ok tail_suf (by omega)
  ·split
   ·rename_i h0
    have:=kind_len (by decide) h0
    exact Ok.ok tail_suf (by omega)
   ·split
    ·rename_i h0
     have:=kind_len (by decide) h0
     exact Ok.ok tail_suf (by omega)
    ·split
     ·exact ok_head h (List.suffix_refl l) (Nat.le_refl _)
     ·split
      ·exact ok_object h (List.suffix_refl l) (Nat.le_refl _)
      ·split
       ·rename_i h0
        have:=at_len h0
        split
        ·exact Ok.bind ((h.rest l.tail.tail).sub (tail_suf.trans tail_suf) (Nat.le_refl _)) fun ps r hr h1=>Ok.ok hr (by simp only [List.length_tail] at h1;omega)
        ·exact Ok.bind ((h.rest l.tail).sub tail_suf (Nat.le_refl _)) fun ps r hr h1=>Ok.ok hr (by omega)
       ·split
        ·rename_i h0
         have:=kind_len (by decide) h0.1
         exact Ok.ok tail_suf (by omega)
        ·exact Ok.stop (List.suffix_refl l)
 args acc l:=by
  show Ok last l _ (argsS last F acc l)
  unfold argsS
  refine Ok.bind (h.expr l) fun x r hr h1 => ?_
  split
  ·exact (h.args _ r.tail).sub (tail_suf.trans hr) (by rw [List.length_tail];omega)
  ·exact Ok.bind (Ok.must hr (Nat.le_refl _)) fun _ q hq h2=>Ok.ok hq (by omega)
 pairs acc l:=by
  show Ok last l _ (pairsS last F acc l)
  unfold pairsS
  split
  ·rename_i h0
   have:=at_len h0
   exact Ok.ok tail_suf (by omega)
  ·split
   ·exact Ok.stop (List.suffix_refl l)
   ·split
    ·exact Ok.fail tail_suf
    ·refine Ok.bind (Ok.must tail_suf (Nat.le_refl _)) fun _ r hr h1=>Ok.bind ((h.expr r).sub hr (Nat.le_refl _)) fun x r2 hr2 h2 => ?_
     have h3:l.tail.length≤l.length:=by rw [List.length_tail];omega
     simp only
     split
     ·exact (h.pairs _ r2.tail).sub (tail_suf.trans hr2) (by rw [List.length_tail];omega)
     ·exact Ok.bind (Ok.must hr2 (Nat.le_refl _)) fun _ q hq h4=>Ok.ok hq (by omega)
 names acc l:=by
  show Ok last l _ (namesS last F acc l)
  unfold namesS
  refine Ok.bind (Ok.name (List.suffix_refl l) (Nat.le_refl _)) fun s r hr h1 => ?_
  simp only
  split
  ·exact (h.names _ r.tail).sub (tail_suf.trans hr) (by rw [List.length_tail];omega)
  ·exact Ok.bind (Ok.must hr (Nat.le_refl _)) fun _ q hq h2=>Ok.ok hq (by omega)
 rest l:=by
  show Ok last l _ (restS last F l)
  unfold restS
  exact Ok.bind (Ok.must (List.suffix_refl l) (Nat.le_refl _)) fun _ r hr h1=>Ok.bind (ok_names h hr (Nat.le_refl _)) fun ps r2 hr2 h2=>Ok.bind ((h.block r2).sub hr2 (Nat.le_refl _)) fun b q hq h3=>Ok.ok hq (by omega)
 block l:=by
  show Ok last l _ (blockS last F l)
  unfold blockS
  exact Ok.bind (Ok.must (List.suffix_refl l) (Nat.le_refl _)) fun _ r hr h1=>Ok.bind ((h.stmts _ r).sub hr (Nat.le_refl _)) fun ps r2 hr2 h2=>Ok.bind (Ok.must hr2 (Nat.le_refl _)) fun _ q hq h3=>Ok.ok hq (by omega)
 stmts acc l:=by
  show Ok last l _ (stmtsS last F acc l)
  unfold stmtsS
  split
  ·exact Ok.ok (List.suffix_refl l) (by omega)
  ·split
   ·exact Ok.ok (List.suffix_refl l) (by omega)
   ·split
    ·exact (h.stmts acc l.tail).sub tail_suf (by rw [List.length_tail];omega)
    ·exact Ok.bind (h.stmt l) fun x r hr h1=>(h.stmts _ r).sub hr (by omega)
 within l:=by
  show Ok last l _ (withinS last F l)
  unfold withinS
  split
  ·exact h.block l
  ·split
   ·rename_i h0
    have:=at_len h0
    exact Ok.ok tail_suf (by omega)
   ·exact Ok.bind (h.stmt l) fun x r hr h1=>Ok.ok hr h1
 stmt l:=by
  show Ok last l _ (stmtS last F l)
  unfold stmtS
  split
  ·exact h.block l
  ·split
   ·rename_i h0
    have:=kind_len (by decide) h0.1
    exact (h.word _ _ l.tail).sub tail_suf (by omega)
   ·split
    ·exact Ok.fail tail_suf
    ·exact Ok.bind (h.expr l) fun x r hr h1=>Ok.bind (Ok.end_ hr (Nat.lt_succ_self _)) fun _ q hq h2=>Ok.ok hq (by omega)
 word s i l:=by
  show Ok last l _ (wordS last F s i l)
  have hr0:=List.suffix_refl l
  unfold wordS
  split
  ·refine Ok.bind (Ok.name hr0 (Nat.le_refl _)) fun x r hr h1 => ?_
   split
   ·exact Ok.bind ((h.expr r.tail).sub (tail_suf.trans hr) (Nat.le_refl _)) fun y r2 hr2 h2=>Ok.bind (Ok.end_ hr2 (Nat.lt_succ_self _)) fun _ q hq h3=>Ok.ok hq (by rw [List.length_tail] at h2;omega)
   ·exact Ok.bind (Ok.end_ hr (Nat.lt_succ_self _)) fun _ q hq h3=>Ok.ok hq (by omega)
  ·split
   ·refine Ok.bind (ok_head h hr0 (Nat.le_refl _)) fun x r hr h1=>Ok.bind ((h.within r).sub hr (Nat.le_refl _)) fun y r2 hr2 h2 => ?_
    split
    ·exact Ok.bind ((h.within r2.tail).sub (tail_suf.trans hr2) (Nat.le_refl _)) fun z q hq h3=>Ok.ok hq (by rw [List.length_tail] at h3;omega)
    ·exact Ok.ok hr2 (by omega)
   ·split
    ·exact Ok.bind (ok_head h hr0 (Nat.le_refl _)) fun x r hr h1=>Ok.bind ((h.within r).sub hr (Nat.le_refl _)) fun y q hq h2=>Ok.ok hq (by omega)
    ·split
     ·refine Ok.bind (Ok.must hr0 (Nat.le_refl _)) fun _ r hr h1 => ?_
      split
      ·exact Ok.bind (Ok.name (tail_suf.trans hr) (Nat.le_refl _)) fun x r2 hr2 h2=>Ok.bind (Ok.must hr2 (Nat.le_refl _)) fun _ r3 hr3 h3=>Ok.bind ((h.expr r3).sub hr3 (Nat.le_refl _)) fun y r4 hr4 h4 =>
        Ok.bind (Ok.must hr4 (Nat.le_refl _)) fun _ r5 hr5 h5=>Ok.bind ((h.within r5).sub hr5 (Nat.le_refl _)) fun z q hq h6=>Ok.ok hq (by rw [List.length_tail] at h2;omega)
      ·split
       ·exact Ok.stop hr
       ·exact Ok.fail hr
     ·split
      ·split
       ·exact Ok.bind (h.expr l) fun x r hr h1=>Ok.bind (Ok.end_ hr (Nat.lt_succ_self _)) fun _ q hq h2=>Ok.ok hq (by omega)
       ·exact Ok.bind (Ok.end_ hr0 (Nat.lt_succ_self _)) fun _ q hq h2=>Ok.ok hq (by omega)
      ·split
       ·split
        ·exact Ok.stop hr0
        ·exact Ok.bind (h.expr l) fun x r hr h1=>Ok.bind (Ok.end_ hr (Nat.lt_succ_self _)) fun _ q hq h2=>Ok.ok hq (by omega)
       ·split
        ·exact Ok.bind (h.block l) fun x r hr h1=>Ok.bind (Ok.must hr (Nat.le_refl _)) fun _ r2 hr2 h2=>Ok.bind (Ok.must hr2 (Nat.le_refl _)) fun _ r3 hr3 h3=>Ok.bind (Ok.name hr3 (Nat.le_refl _)) fun y r4 hr4 h4 =>
          Ok.bind (Ok.must hr4 (Nat.le_refl _)) fun _ r5 hr5 h5=>Ok.bind ((h.block r5).sub hr5 (Nat.le_refl _)) fun z q hq h6=>Ok.ok hq (by omega)
        ·split
         ·exact Ok.bind (Ok.end_ hr0 (Nat.lt_succ_self _)) fun _ q hq h2=>Ok.ok hq (by omega)
         ·split
          ·exact Ok.bind (Ok.end_ hr0 (Nat.lt_succ_self _)) fun _ q hq h2=>Ok.ok hq (by omega)
          ·exact Ok.bind (Ok.name hr0 (Nat.le_refl _)) fun x r hr h1=>Ok.bind ((h.rest r).sub hr (Nat.le_refl _)) fun ps q hq h2=>Ok.ok hq (by omega)
theorem okFns (last:Nat) : ∀ f,OkFns last (fns last f)
 | 0=>⟨fun _=>Ok.none,fun _=>Ok.none,fun _ _=>Ok.none,fun _ _ _ _=>Ok.none,fun _=>Ok.none,fun _=>Ok.none,fun _ _ _=>Ok.none,fun _=>Ok.none,fun _ _=>Ok.none,fun _ _=>Ok.none,fun _ _=>Ok.none,fun _=>Ok.none,fun _=>Ok.none,fun _ _=>Ok.none,fun _=>Ok.none,fun _=>Ok.none,fun _ _ _=>Ok.none⟩
 | f+1=>okStep (okFns last f)
end
section
open Go.RowKit
variable {α β : Type} {last n m:Nat} {L l r:List Tl}
theorem tot_ok {a : α}:(Rd.ok a r)≠none:=by simp [Rd.ok]
theorem tot_fail {e:Int}:(failF last e l:Rd α)≠none:=by simp [failF]
theorem tot_stop {b:Bool}:(stopF last b l:Rd α)≠none:=tot_fail
theorem tot_must {s:List UInt8}:mustF last s l≠none:=by
 unfold mustF
 split
 ·exact tot_ok
 ·exact tot_stop
theorem tot_name:nameF last l≠none:=by
 unfold nameF
 split
 ·exact tot_ok
 ·exact tot_stop
theorem tot_end:endF last l≠none:=by
 unfold endF
 split
 ·exact tot_ok
 ·split
  ·exact tot_stop
  ·exact tot_ok
theorem tot_bind {x:Rd α} {g : α → List Tl→Rd β} (hx:x≠none) (ho:Ok last L n x) (hg : ∀ a r,r <:+ L→r.length<n→g a r≠none):x.bind g≠none:=by
 match x,hx,ho with
 | none,hx,_=>exact absurd rfl hx
 | some (.error e),_,_=>simp [Rd.bind]
 | some (.ok (a,r)),_,ho=>exact hg a r (ho.1 a r rfl).1 (ho.1 a r rfl).2
structure TotFns (f:Nat) (F:Fns):Prop where
 expr : ∀ l,l.length*14+11<f→F.expr l≠none
 cond : ∀ l,l.length*14+10<f→F.cond l≠none
 level : ∀ n l,n≤6→l.length*14+9<f+n→F.level n l≠none
 more : ∀ n x b l,n≤5→l.length*14<f→F.more n x b l≠none
 signed : ∀ l,l.length*14+2<f→F.signed l≠none
 chain : ∀ l,l.length*14+1<f→F.chain l≠none
 members : ∀ b x l,l.length*14<f→F.members b x l≠none
 thing : ∀ l,l.length*14<f→F.thing l≠none
 args : ∀ a l,l.length*14+12<f→F.args a l≠none
 pairs : ∀ a l,l.length*14<f→F.pairs a l≠none
 names : ∀ a l,l.length*14<f→F.names a l≠none
 rest : ∀ l,l.length*14<f→F.rest l≠none
 block : ∀ l,l.length*14<f→F.block l≠none
 stmts : ∀ a l,l.length*14+13<f→F.stmts a l≠none
 within : ∀ l,l.length*14+13<f→F.within l≠none
 stmt : ∀ l,l.length*14+12<f→F.stmt l≠none
 word : ∀ s i l,l.length*14+12<f→F.word s i l≠none
variable {f:Nat} {F:Fns}
theorem tot_args (t:TotFns f F) (hn:l.length*14+12<f):argsF F l≠none:=by
 unfold argsF
 split
 ·exact tot_ok
 ·exact t.args _ l hn
theorem tot_names (t:TotFns f F) (hn:l.length*14<f):namesF F l≠none:=by
 unfold namesF
 split
 ·exact tot_ok
 ·exact t.names _ l hn
theorem tot_link (h:OkFns last F) (t:TotFns f F) {c:Bool} {x:Tree} (hn:l.length*14<f):linkF F c x l≠none:=by
 unfold linkF
 exact tot_bind (t.members _ _ l hn) (h.members _ _ l) fun _ _ _ _=>tot_ok
theorem tot_head (h:OkFns last F) (t:TotFns f F) (hn:l.length*14<f+1):headS last F l≠none:=by
 unfold headS
 exact tot_bind tot_must (Ok.must (List.suffix_refl l) (Nat.le_refl _)) fun _ r hr h1=>tot_bind (t.expr r (by omega)) (h.expr r) fun _ _ _ _=>tot_bind (L:=l) (n:=l.length+r.length+1000) tot_must (by
  rename_i r2 hr2 h2
  exact Ok.must (hr2.trans hr) (by omega)) fun _ _ _ _=>tot_ok
theorem tot_object (h:OkFns last F) (t:TotFns f F) (hn:l.length*14<f+1):objectS last F l≠none:=by
 unfold objectS
 exact tot_bind tot_must (Ok.must (List.suffix_refl l) (Nat.le_refl _)) fun _ r hr h1=>tot_bind (t.pairs _ r (by omega)) (h.pairs _ r) fun _ _ _ _=>tot_ok
theorem totStep (h:OkFns last F) (t:TotFns f F):TotFns (f+1) (stepFns last F) where
 expr l hn:=by
  show exprS F l≠none
  unfold exprS
  refine tot_bind (t.cond l (by omega)) (h.cond l) fun p r hr h1 => ?_
  split
  ·exact tot_bind (t.expr _ (by rw [List.length_tail];omega)) (h.expr _) fun _ _ _ _=>tot_ok
  ·exact tot_ok
 cond l hn:=by
  show condS last F l≠none
  unfold condS
  refine tot_bind (t.level 0 l (by omega) (by omega)) (h.level 0 l) fun p r hr h1 => ?_
  split
  ·refine tot_bind (t.expr _ (by rw [List.length_tail];omega)) ((h.expr _).sub (tail_suf.trans hr) (Nat.le_refl _)) fun a r2 hr2 h2=>tot_bind tot_must (Ok.must hr2 (Nat.le_refl _)) fun _ r3 hr3 h3 => ?_
   rw [List.length_tail] at h2
   exact tot_bind (t.expr r3 (by omega)) (h.expr r3) fun _ _ _ _=>tot_ok
  ·exact tot_ok
 level n l h6 hn:=by
  show levelS F n l≠none
  unfold levelS
  split
  ·exact t.signed l (by omega)
  ·exact tot_bind (t.level (n+1) l (by omega) (by omega)) (h.level (n+1) l) fun p r hr h1=>t.more n p.1 p.2 r (by omega) (by omega)
 more n x b l h5 hn:=by
  show moreS last F n x b l≠none
  unfold moreS
  split
  ·rename_i h0
   have:=at_len h0
   exact tot_bind (t.level (n+1) l.tail (by omega) (by omega)) (h.level (n+1) l.tail) fun p r hr h1=>t.more n _ false r h5 (by omega)
  ·exact tot_ok
 signed l hn:=by
  show signedS last F l≠none
  unfold signedS
  split
  ·rename_i h0
   have:=at_len h0
   exact tot_bind (t.signed l.tail (by omega)) (h.signed l.tail) fun _ _ _ _=>tot_ok
  ·split
   ·rename_i h0
    have:=at_len h0
    exact tot_bind (t.signed l.tail (by omega)) (h.signed l.tail) fun _ _ _ _=>tot_ok
   ·exact t.chain l (by omega)
 chain l hn:=by
  show chainS last F l≠none
  unfold chainS
  split
  ·rename_i h0
   have:=at_len h0
   refine tot_bind (t.thing l.tail (by omega)) ((h.thing l.tail).sub tail_suf (Nat.le_refl _)) fun x r hr h1=>tot_bind (t.members _ _ r (by omega)) ((h.members false x r).sub hr (Nat.le_refl _)) fun y r2 hr2 h2 => ?_
   split
   ·exact tot_bind (tot_args t (by rw [List.length_tail];omega)) (ok_args h (tail_suf.trans hr2) (Nat.le_refl _)) fun ys r3 hr3 h3=>tot_link h t (by rw [List.length_tail] at h3;omega)
   ·exact tot_link h t (by omega)
  ·exact tot_bind (t.thing l (by omega)) (h.thing l) fun x r hr h1=>tot_link h t (by omega)
 members b x l hn:=by
  show membersS last F b x l≠none
  unfold membersS
  split
  ·rename_i h0
   have:=at_len h0
   split
   ·exact tot_stop
   ·exact t.members b _ l.tail.tail (by simp only [List.length_tail];omega)
  ·split
   ·rename_i h0
    have:=at_len h0
    exact tot_bind (t.expr l.tail (by omega)) ((h.expr l.tail).sub tail_suf (Nat.le_refl _)) fun y r hr h1=>tot_bind tot_must (Ok.must hr (Nat.le_refl _)) fun _ q hq h2=>t.members b _ q (by omega)
   ·split
    ·rename_i h0
     have:=at_len (Bool.and_eq_true _ _ ▸ h0).2
     exact tot_bind (tot_args t (by omega)) (ok_args h tail_suf (Nat.le_refl _)) fun ys r hr h1=>t.members b _ r (by omega)
    ·exact tot_ok
 thing l hn:=by
  show thingS last F l≠none
  unfold thingS
  simp only
  split
  ·split
   ·exact tot_fail
   ·exact tot_ok
  ·split
   ·exact tot_ok
   ·split
    ·exact tot_ok
    ·split
     ·exact tot_head h t hn
     ·split
      ·exact tot_object h t hn
      ·split
       ·rename_i h0
        have:=at_len h0
        split
        ·exact tot_bind (t.rest l.tail.tail (by simp only [List.length_tail];omega)) (h.rest l.tail.tail) fun _ _ _ _=>tot_ok
        ·exact tot_bind (t.rest l.tail (by omega)) (h.rest l.tail) fun _ _ _ _=>tot_ok
       ·split
        ·exact tot_ok
        ·exact tot_stop
 args acc l hn:=by
  show argsS last F acc l≠none
  unfold argsS
  refine tot_bind (t.expr l (by omega)) (h.expr l) fun x r hr h1 => ?_
  split
  ·exact t.args _ r.tail (by rw [List.length_tail];omega)
  ·exact tot_bind tot_must (Ok.must hr (Nat.le_refl _)) fun _ _ _ _=>tot_ok
 pairs acc l hn:=by
  show pairsS last F acc l≠none
  unfold pairsS
  split
  ·exact tot_ok
  ·split
   ·exact tot_stop
   ·split
    ·exact tot_fail
    ·refine tot_bind tot_must (Ok.must tail_suf (Nat.le_refl _)) fun _ r hr h1 => ?_
     rw [List.length_tail] at h1
     refine tot_bind (t.expr r (by omega)) ((h.expr r).sub hr (Nat.le_refl _)) fun x r2 hr2 h2 => ?_
     simp only
     split
     ·exact t.pairs _ r2.tail (by rw [List.length_tail];omega)
     ·exact tot_bind tot_must (Ok.must hr2 (Nat.le_refl _)) fun _ _ _ _=>tot_ok
 names acc l hn:=by
  show namesS last F acc l≠none
  unfold namesS
  refine tot_bind tot_name (Ok.name (List.suffix_refl l) (Nat.le_refl _)) fun s r hr h1 => ?_
  simp only
  split
  ·exact t.names _ r.tail (by rw [List.length_tail];omega)
  ·exact tot_bind tot_must (Ok.must hr (Nat.le_refl _)) fun _ _ _ _=>tot_ok
 rest l hn:=by
  show restS last F l≠none
  unfold restS
  exact tot_bind tot_must (Ok.must (List.suffix_refl l) (Nat.le_refl _)) fun _ r hr h1=>tot_bind (tot_names t (by omega)) (ok_names h hr (Nat.le_refl _)) fun ps r2 hr2 h2=>tot_bind (t.block r2 (by omega)) (h.block r2) fun _ _ _ _=>tot_ok
 block l hn:=by
  show blockS last F l≠none
  unfold blockS
  exact tot_bind tot_must (Ok.must (List.suffix_refl l) (Nat.le_refl _)) fun _ r hr h1=>tot_bind (t.stmts _ r (by omega)) ((h.stmts _ r).sub hr (Nat.le_refl _)) fun ps r2 hr2 h2=>tot_bind tot_must (Ok.must hr2 (Nat.le_refl _)) fun _ _ _ _=>tot_ok
 stmts acc l hn:=by
  show stmtsS last F acc l≠none
  unfold stmtsS
  split
  ·exact tot_ok
  ·rename_i hk
   have:=kind_len' hk
   split
   ·exact tot_ok
   ·split
    ·exact t.stmts acc l.tail (by omega)
    ·exact tot_bind (t.stmt l (by omega)) (h.stmt l) fun x r hr h1=>t.stmts _ r (by omega)
 within l hn:=by
  show withinS last F l≠none
  unfold withinS
  split
  ·exact t.block l (by omega)
  ·split
   ·exact tot_ok
   ·exact tot_bind (t.stmt l (by omega)) (h.stmt l) fun _ _ _ _=>tot_ok
 stmt l hn:=by
  show stmtS last F l≠none
  unfold stmtS
  split
  ·exact t.block l (by omega)
  ·split
   ·rename_i h0
    have:=kind_len (by decide) h0.1
    exact t.word _ _ l.tail (by omega)
   ·split
    ·exact tot_fail
    ·exact tot_bind (t.expr l (by omega)) (h.expr l) fun x r hr h1=>tot_bind tot_end (Ok.end_ hr (Nat.lt_succ_self _)) fun _ _ _ _=>tot_ok
 word s i l hn:=by
  show wordS last F s i l≠none
  have hr0:=List.suffix_refl l
  unfold wordS
  split
  ·refine tot_bind tot_name (Ok.name hr0 (Nat.le_refl _)) fun x r hr h1 => ?_
   split
   ·exact tot_bind (t.expr r.tail (by rw [List.length_tail];omega)) ((h.expr r.tail).sub (tail_suf.trans hr) (Nat.le_refl _)) fun y r2 hr2 h2=>tot_bind tot_end (Ok.end_ hr2 (Nat.lt_succ_self _)) fun _ _ _ _=>tot_ok
   ·exact tot_bind tot_end (Ok.end_ hr (Nat.lt_succ_self _)) fun _ _ _ _=>tot_ok
  ·split
   ·refine tot_bind (tot_head h t (by omega)) (ok_head h hr0 (Nat.le_refl _)) fun x r hr h1=>tot_bind (t.within r (by omega)) ((h.within r).sub hr (Nat.le_refl _)) fun y r2 hr2 h2 => ?_
    split
    ·exact tot_bind (t.within r2.tail (by rw [List.length_tail];omega)) (h.within r2.tail) fun _ _ _ _=>tot_ok
    ·exact tot_ok
   ·split
    ·exact tot_bind (tot_head h t (by omega)) (ok_head h hr0 (Nat.le_refl _)) fun x r hr h1=>tot_bind (t.within r (by omega)) (h.within r) fun _ _ _ _=>tot_ok
    ·split
     ·refine tot_bind tot_must (Ok.must hr0 (Nat.le_refl _)) fun _ r hr h1 => ?_
      split
      ·refine tot_bind tot_name (Ok.name (tail_suf.trans hr) (Nat.le_refl _)) fun x r2 hr2 h2=>tot_bind tot_must (Ok.must hr2 (Nat.le_refl _)) fun _ r3 hr3 h3 => ?_
       rw [List.length_tail] at h2
       exact tot_bind (t.expr r3 (by omega)) ((h.expr r3).sub hr3 (Nat.le_refl _)) fun y r4 hr4 h4 =>
        tot_bind tot_must (Ok.must hr4 (Nat.le_refl _)) fun _ r5 hr5 h5=>tot_bind (t.within r5 (by omega)) (h.within r5) fun _ _ _ _=>tot_ok
      ·split
       ·exact tot_stop
       ·exact tot_fail
     ·split
      ·split
       ·exact tot_bind (t.expr l (by omega)) (h.expr l) fun x r hr h1=>tot_bind tot_end (Ok.end_ hr (Nat.lt_succ_self _)) fun _ _ _ _=>tot_ok
       ·exact tot_bind tot_end (Ok.end_ hr0 (Nat.lt_succ_self _)) fun _ _ _ _=>tot_ok
      ·split
       ·split
        ·exact tot_stop
        ·exact tot_bind (t.expr l (by omega)) (h.expr l) fun x r hr h1=>tot_bind tot_end (Ok.end_ hr (Nat.lt_succ_self _)) fun _ _ _ _=>tot_ok
       ·split
        ·exact tot_bind (t.block l (by omega)) (h.block l) fun x r hr h1=>tot_bind tot_must (Ok.must hr (Nat.le_refl _)) fun _ r2 hr2 h2=>tot_bind tot_must (Ok.must hr2 (Nat.le_refl _)) fun _ r3 hr3 h3=>tot_bind tot_name (Ok.name hr3 (Nat.le_refl _)) fun y r4 hr4 h4 =>
          tot_bind tot_must (Ok.must hr4 (Nat.le_refl _)) fun _ r5 hr5 h5=>tot_bind (t.block r5 (by omega)) (h.block r5) fun _ _ _ _=>tot_ok
        ·split
         ·exact tot_bind tot_end (Ok.end_ hr0 (Nat.lt_succ_self _)) fun _ _ _ _=>tot_ok
         ·split
          ·exact tot_bind tot_end (Ok.end_ hr0 (Nat.lt_succ_self _)) fun _ _ _ _=>tot_ok
          ·exact tot_bind tot_name (Ok.name hr0 (Nat.le_refl _)) fun x r hr h1=>tot_bind (t.rest r (by omega)) (h.rest r) fun _ _ _ _=>tot_ok
theorem totFns (last:Nat) : ∀ f,TotFns f (fns last f)
 | 0=>⟨fun _ h=>absurd h (by omega),fun _ h=>absurd h (by omega),fun _ _ h h'=>absurd h' (by omega),fun _ _ _ _ _ h=>absurd h (by omega),fun _ h=>absurd h (by omega),fun _ h=>absurd h (by omega),fun _ _ _ h=>absurd h (by omega),fun _ h=>absurd h (by omega),fun _ _ h=>absurd h (by omega),fun _ _ h=>absurd h (by omega),fun _ _ h=>absurd h (by omega),fun _ h=>absurd h (by omega),fun _ h=>absurd h (by omega),fun _ _ h=>absurd h (by omega),fun _ h=>absurd h (by omega),fun _ h=>absurd h (by omega),fun _ _ _ h=>absurd h (by omega)⟩
 | f+1=>totStep (okFns last f) (totFns last f)
def fuelF (l:List Tl):Nat:=l.length*14+20
theorem prog_total (l:List Tl):progF (fuelF l) l≠none:=by
 unfold progF allRead
 refine tot_bind (n:=l.length+2) (L:=l) (last:=lastF l) (tot_bind ((totFns _ _).stmts [] l (by unfold fuelF;omega)) ((okFns _ _).stmts [] l) fun _ _ _ _=>tot_ok) (Ok.bind ((okFns _ _).stmts [] l) fun _ r hr h1=>Ok.ok hr (by omega)) fun a r _ _ => ?_
 split
 ·exact tot_stop
 ·exact tot_ok
theorem sole_total (l:List Tl):soleF (fuelF l) l≠none:=by
 unfold soleF allRead
 refine tot_bind (n:=l.length) (L:=l) (last:=lastF l) ((totFns _ _).expr l (by unfold fuelF;omega)) ((okFns _ _).expr l) fun a r _ _ => ?_
 split
 ·exact tot_stop
 ·exact tot_ok
end
section
open Go.RowKit
def Le {α : Type} (x y:Rd α):Prop := ∀ z,x=some z→y=some z
variable {α β : Type} {last:Nat} {l:List Tl} {F G:Fns}
theorem Le.refl (x:Rd α):Le x x:=fun _ h=>h
theorem Le.none {y:Rd α}:Le none y:=fun _ h=>by cases h
theorem Le.trans {x y z:Rd α} (h:Le x y) (k:Le y z):Le x z:=fun w hw=>k w (h w hw)
theorem Le.bind {x y:Rd α} {g k : α → List Tl→Rd β} (h:Le x y) (hg : ∀ a r,Le (g a r) (k a r)):Le (x.bind g) (y.bind k):=by
 match x,h with
 | .none,_=>exact Le.none
 | some (.error e),h=>rw [h _ rfl];exact Le.refl _
 | some (.ok (a,r)),h=>rw [h _ rfl];exact hg a r
theorem Le.ite {c:Prop} [Decidable c] {a b a' b':Rd α} (h:c→Le a a') (k:¬ c→Le b b'):Le (if c then a else b) (if c then a' else b'):=by
 by_cases hc:c
 ·rw [if_pos hc,if_pos hc];exact h hc
 ·rw [if_neg hc,if_neg hc];exact k hc
structure LeF (F G:Fns):Prop where
 expr : ∀ l,Le (F.expr l) (G.expr l)
 cond : ∀ l,Le (F.cond l) (G.cond l)
 level : ∀ n l,Le (F.level n l) (G.level n l)
 more : ∀ n x b l,Le (F.more n x b l) (G.more n x b l)
 signed : ∀ l,Le (F.signed l) (G.signed l)
 chain : ∀ l,Le (F.chain l) (G.chain l)
 members : ∀ b x l,Le (F.members b x l) (G.members b x l)
 thing : ∀ l,Le (F.thing l) (G.thing l)
 args : ∀ a l,Le (F.args a l) (G.args a l)
 pairs : ∀ a l,Le (F.pairs a l) (G.pairs a l)
 names : ∀ a l,Le (F.names a l) (G.names a l)
 rest : ∀ l,Le (F.rest l) (G.rest l)
 block : ∀ l,Le (F.block l) (G.block l)
 stmts : ∀ a l,Le (F.stmts a l) (G.stmts a l)
 within : ∀ l,Le (F.within l) (G.within l)
 stmt : ∀ l,Le (F.stmt l) (G.stmt l)
 word : ∀ s i l,Le (F.word s i l) (G.word s i l)
theorem leStep (h:LeF F G):LeF (stepFns last F) (stepFns last G):=by
 constructor <;> intros <;> simp only [stepFns,exprS,condS,levelS,moreS,signedS,chainS,membersS,thingS,argsS,pairsS,namesS,restS,blockS,stmtsS,withinS,stmtS,wordS,argsF,namesF,linkF,headS,objectS]
 all_goals repeat' (first
  | exact Le.refl _
  | exact h.expr _
  | exact h.cond _
  | exact h.level _ _
  | exact h.more _ _ _ _
  | exact h.signed _
  | exact h.chain _
  | exact h.members _ _ _
  | exact h.thing _
  | exact h.args _ _
  | exact h.pairs _ _
  | exact h.names _ _
  | exact h.rest _
  | exact h.block _
  | exact h.stmts _ _
  | exact h.within _
  | exact h.stmt _
  | exact h.word _ _ _
  | refine Le.bind ?_ (fun _ _ => ?_)
  | refine Le.ite (fun _ => ?_) (fun _ => ?_))
theorem leFns (last:Nat) : ∀ f,LeF (fns last f) (fns last (f+1))
 | 0=>⟨fun _=>Le.none,fun _=>Le.none,fun _ _=>Le.none,fun _ _ _ _=>Le.none,fun _=>Le.none,fun _=>Le.none,fun _ _ _=>Le.none,fun _=>Le.none,fun _ _=>Le.none,fun _ _=>Le.none,fun _ _=>Le.none,fun _=>Le.none,fun _=>Le.none,fun _ _=>Le.none,fun _=>Le.none,fun _=>Le.none,fun _ _ _=>Le.none⟩
 | f+1=>leStep (leFns last f)
theorem LeF.trans {F G H:Fns} (h:LeF F G) (k:LeF G H):LeF F H :=
 ⟨fun l=>(h.expr l).trans (k.expr l),fun l=>(h.cond l).trans (k.cond l),fun n l=>(h.level n l).trans (k.level n l),fun n x b l=>(h.more n x b l).trans (k.more n x b l),fun l=>(h.signed l).trans (k.signed l),fun l=>(h.chain l).trans (k.chain l),fun b x l=>(h.members b x l).trans (k.members b x l),fun l=>(h.thing l).trans (k.thing l),fun a l=>(h.args a l).trans (k.args a l),fun a l=>(h.pairs a l).trans (k.pairs a l),fun a l=>(h.names a l).trans (k.names a l),fun l=>(h.rest l).trans (k.rest l),fun l=>(h.block l).trans (k.block l),fun a l=>(h.stmts a l).trans (k.stmts a l),fun l=>(h.within l).trans (k.within l),fun l=>(h.stmt l).trans (k.stmt l),fun s i l=>(h.word s i l).trans (k.word s i l)⟩
theorem leF_refl (F:Fns):LeF F F :=
 ⟨fun _=>Le.refl _,fun _=>Le.refl _,fun _ _=>Le.refl _,fun _ _ _ _=>Le.refl _,fun _=>Le.refl _,fun _=>Le.refl _,fun _ _ _=>Le.refl _,fun _=>Le.refl _,fun _ _=>Le.refl _,fun _ _=>Le.refl _,fun _ _=>Le.refl _,fun _=>Le.refl _,fun _=>Le.refl _,fun _ _=>Le.refl _,fun _=>Le.refl _,fun _=>Le.refl _,fun _ _ _=>Le.refl _⟩
theorem leFns_add (last f:Nat) : ∀ k,LeF (fns last f) (fns last (f+k))
 | 0=>leF_refl _
 | k+1=>(leFns_add last f k).trans (leFns last (f+k))
theorem leFns_le (last:Nat) {f g:Nat} (h:f≤g):LeF (fns last f) (fns last g):=by
 have:=leFns_add last f (g-f)
 rwa [Nat.add_sub_cancel' h] at this
end
end Go.Proofs.YtjjdmiaonkailaaGreatDoor
