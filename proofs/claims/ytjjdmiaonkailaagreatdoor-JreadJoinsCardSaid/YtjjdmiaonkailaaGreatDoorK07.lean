/- Walks and plain laws, packed: LexQ, Laid. -/
import Derived.Test.YtjjdmiaonkailaaGreatDoorK06
import Derived.Test.YtjjdmiaonkailaaGreatDoorK04
import Derived.Lib.LaidTab
import Derived.Lib.Space
import Derived.Lib.Itoa
namespace Go.Proofs.YtjjdmiaonkailaaGreatDoor
section
open Go.RowKit
def lexL:Nat→Sc→List Tl × Option (Nat × Int)
 | 0,_=>([],none)
 | f+1,x =>
  match blankN x.s with
  | none=>([],some (x.line,23))
  | some (n+1)=>lexL f (passF x (n+1))
  | some 0 =>
   if x.s=[] then ([],none)
   else if (tokenF x.s).2.2≠0 then ([],some (x.line,(tokenF x.s).2.2))
   else (⟨(tokenF x.s).1,x.line,x.nl⟩::(lexL f { passF x (tokenF x.s).2.1 with nl:=false }).1,(lexL f { passF x (tokenF x.s).2.1 with nl:=false }).2)
theorem lexL_blank {f n:Nat} {x:Sc} (h:blankN x.s=some (n+1)):lexL (f+1) x=lexL f (passF x (n+1)):=by
 simp only [lexL,h]
theorem lexL_bad {f:Nat} {x:Sc} (h:blankN x.s=none):lexL (f+1) x=([],some (x.line,23)):=by
 simp only [lexL,h]
theorem lexL_end {f:Nat} {x:Sc} (h:x.s=[]):lexL (f+1) x=([],none):=by
 simp only [lexL,h,blankN,if_true]
theorem lexL_err {f:Nat} {x:Sc} (h:blankN x.s=some 0) (hs:x.s≠[]) (he:(tokenF x.s).2.2≠0):lexL (f+1) x=([],some (x.line,(tokenF x.s).2.2)):=by
 simp only [lexL,h,if_neg hs,if_pos he]
theorem lexL_tok {f:Nat} {x:Sc} (h:blankN x.s=some 0) (hs:x.s≠[]) (he:(tokenF x.s).2.2=0) :
  lexL (f+1) x=(⟨(tokenF x.s).1,x.line,x.nl⟩::(lexL f { passF x (tokenF x.s).2.1 with nl:=false }).1,(lexL f { passF x (tokenF x.s).2.1 with nl:=false }).2):=by
 simp only [lexL,h,if_neg hs,he,ne_eq,not_true_eq_false,if_false]
theorem passF_len (x:Sc) (n:Nat):(passF x n).s.length=x.s.length-n:=by simp [passF]
theorem lexL_fuel : ∀ {f g:Nat} {x:Sc},x.s.length≤f→x.s.length≤g→lexL f x=lexL g x
 | 0,0,x,_,_=>rfl
 | 0,g+1,x,h,_=>by rw [lexL_end (List.eq_nil_of_length_eq_zero (by omega))];rfl
 | f+1,0,x,_,h=>by rw [lexL_end (List.eq_nil_of_length_eq_zero (by omega))];rfl
 | f+1,g+1,x,h,h'=>by
  cases hb:blankN x.s with
  | none=>rw [lexL_bad hb,lexL_bad hb]
  | some n =>
   cases n with
   | succ n =>
    rw [lexL_blank hb,lexL_blank hb]
    exact lexL_fuel (by rw [passF_len];omega) (by rw [passF_len];omega)
   | zero =>
    by_cases hs:x.s=[]
    ·rw [lexL_end hs,lexL_end hs]
    ·by_cases he:(tokenF x.s).2.2=0
     ·have hp:=(token_ok he).1
      have:lexL f { passF x (tokenF x.s).2.1 with nl:=false }=lexL g { passF x (tokenF x.s).2.1 with nl:=false } :=
       lexL_fuel (by show (passF x _).s.length≤_;rw [passF_len];omega) (by show (passF x _).s.length≤_;rw [passF_len];omega)
      rw [lexL_tok hb hs he,lexL_tok hb hs he,this]
     ·rw [lexL_err hb hs he,lexL_err hb hs he]
theorem lexL_blanks : ∀ {f g:Nat} {x:Sc},x.s.length≤f→x.s.length≤g →
  (blanksF f x).2.s.length≤x.s.length ∧
  ((blanksF f x).1=false→lexL g x=([],some ((blanksF f x).2.line,23))) ∧
  ((blanksF f x).1=true→blankN (blanksF f x).2.s=some 0∧lexL g x=lexL g (blanksF f x).2)
 | 0,g,x,h,h'=>by
  have hs:x.s=[]:=List.eq_nil_of_length_eq_zero (by omega)
  simp [blanksF,hs,blankN]
 | f+1,g,x,h,h'=>by
  cases hb:blankN x.s with
  | none =>
   have hs:x.s≠[]:=by rintro hs;rw [hs] at hb;simp [blankN] at hb
   have hl:0<x.s.length:=List.length_pos_iff.2 hs
   obtain ⟨g,rfl⟩ : ∃ g',g=g'+1:=⟨g-1,by omega⟩
   simp only [blanksF,hb,lexL_bad hb]
   simp
  | some n =>
   cases n with
   | zero =>
    simp only [blanksF,hb]
    simp
   | succ n =>
    have hn:=blankN_le _ hb
    obtain ⟨g,rfl⟩ : ∃ g',g=g'+1:=⟨g-1,by omega⟩
    have hlen:=passF_len x (n+1)
    obtain ⟨i1,i2,i3⟩:=lexL_blanks (f:=f) (g:=g+1) (x:=passF x (n+1)) (by omega) (by omega)
    have hfu:lexL (g+1) x=lexL (g+1) (passF x (n+1)):=by
     rw [lexL_blank hb]
     exact lexL_fuel (by omega) (by omega)
    simp only [blanksF,hb]
    refine ⟨by omega,fun hh => ?_,fun hh => ?_⟩
    ·rw [hfu];exact i2 hh
    ·exact ⟨(i3 hh).1,by rw [hfu];exact (i3 hh).2⟩
theorem lexGo_lexL : ∀ {f g:Nat} {x:Sc} {m:Nat},x.s.length<f→x.s.length≤g→m+x.s.length≤20000→lexGo f x m=lexL g x
 | 0,_,_,_,h,_,_=>by omega
 | f+1,g,x,m,h,h',hm=>by
  obtain ⟨i1,i2,i3⟩:=lexL_blanks (f:=x.s.length) (g:=g) (x:=x) (Nat.le_refl _) h'
  simp only [lexGo]
  cases hb:(blanksF x.s.length x).1 with
  | false=>simp [i2 hb]
  | true =>
   obtain ⟨j1,j2⟩:=i3 hb
   rw [j2]
   generalize (blanksF x.s.length x).2=y at i1 j1 j2 ⊢
   by_cases hs:y.s=[]
   ·cases g with
    | zero=>simp [hs,lexL]
    | succ g=>simp [hs,lexL_end hs]
   ·have hl:0<y.s.length:=List.length_pos_iff.2 hs
    obtain ⟨g,rfl⟩ : ∃ g',g=g'+1:=⟨g-1,by omega⟩
    by_cases he:(tokenF y.s).2.2=0
    ·have hp:=(token_ok he).1
     have hne:¬ m=20000:=by omega
     rw [lexL_tok j1 hs he,lexGo_lexL (f:=f) (g:=g) (x:={ passF y (tokenF y.s).2.1 with nl:=false }) (m:=m+1) (by show (passF y _).s.length<_;rw [passF_len];omega) (by show (passF y _).s.length≤_;rw [passF_len];omega) (by show _+(passF y _).s.length≤_;rw [passF_len];omega)]
     simp [hs,he,hne]
    ·rw [lexL_err j1 hs he]
     simp [hs,he]
theorem lexF_eq {s:List UInt8} (h:s.length≤20000):lexF s=match lexL s.length ⟨s,1,false⟩ with
  | (l,none)=>(l,0,0)
  | (_,some p)=>([],p.1,p.2):=by
 rw [lexF,if_neg (by omega),lexGo_lexL (g:=s.length) (by simp) (by simp) (by simpa using h)]
 rfl
def toksF:Nat→List UInt8→List Tk × Int
 | 0,_=>([],0)
 | f+1,s =>
  match blankN s with
  | none=>([],23)
  | some (n+1)=>toksF f (s.drop (n+1))
  | some 0 =>
   if s=[] then ([],0)
   else if (tokenF s).2.2≠0 then ([],(tokenF s).2.2)
   else ((tokenF s).1::(toksF f (s.drop (tokenF s).2.1)).1,(toksF f (s.drop (tokenF s).2.1)).2)
theorem toksF_blank {f n:Nat} {x:List UInt8} (h:blankN x=some (n+1)):toksF (f+1) x=toksF f (x.drop (n+1)):=by
 simp only [toksF,h]
theorem toksF_bad {f:Nat} {x:List UInt8} (h:blankN x=none):toksF (f+1) x=([],23):=by
 simp only [toksF,h]
theorem toksF_end {f:Nat}:toksF f []=([],0):=by
 cases f <;> simp [toksF,blankN]
theorem toksF_err {f:Nat} {x:List UInt8} (h:blankN x=some 0) (hs:x≠[]) (he:(tokenF x).2.2≠0):toksF (f+1) x=([],(tokenF x).2.2):=by
 simp only [toksF,h,if_neg hs,if_pos he]
theorem toksF_tok {f:Nat} {x:List UInt8} (h:blankN x=some 0) (hs:x≠[]) (he:(tokenF x).2.2=0) :
  toksF (f+1) x=((tokenF x).1::(toksF f (x.drop (tokenF x).2.1)).1,(toksF f (x.drop (tokenF x).2.1)).2):=by
 simp only [toksF,h,if_neg hs,he,ne_eq,not_true_eq_false,if_false]
theorem toksF_fuel : ∀ {f g:Nat} {x:List UInt8},x.length≤f→x.length≤g→toksF f x=toksF g x
 | 0,g,x,h,_=>by
  obtain rfl:x=[]:=List.eq_nil_of_length_eq_zero (by omega)
  rw [toksF_end,toksF_end]
 | f+1,0,x,_,h=>by
  obtain rfl:x=[]:=List.eq_nil_of_length_eq_zero (by omega)
  rw [toksF_end,toksF_end]
 | f+1,g+1,x,h,h'=>by
  cases hb:blankN x with
  | none=>rw [toksF_bad hb,toksF_bad hb]
  | some n =>
   cases n with
   | succ n =>
    rw [toksF_blank hb,toksF_blank hb]
    exact toksF_fuel (by rw [List.length_drop];omega) (by rw [List.length_drop];omega)
   | zero =>
    by_cases hs:x=[]
    ·rw [hs,toksF_end,toksF_end]
    ·by_cases he:(tokenF x).2.2=0
     ·have hp:=(token_ok he).1
      rw [toksF_tok hb hs he,toksF_tok hb hs he,toksF_fuel (f:=f) (g:=g) (x:=x.drop (tokenF x).2.1) (by rw [List.length_drop];omega) (by rw [List.length_drop];omega)]
     ·rw [toksF_err hb hs he,toksF_err hb hs he]
def toks (s:List UInt8):List Tk × Int:=toksF s.length s
theorem lexL_toks : ∀ (f:Nat) (x:Sc),(lexL f x).1.map Tl.t=(toksF f x.s).1∧(match (lexL f x).2 with | none=>0 | some p=>p.2)=(toksF f x.s).2∧((lexL f x).2.isSome=true→(toksF f x.s).2≠0)
 | 0,x=>by simp [lexL,toksF]
 | f+1,x=>by
  cases hb:blankN x.s with
  | none=>rw [lexL_bad hb,toksF_bad hb];simp
  | some n =>
   cases n with
   | succ n =>
    rw [lexL_blank hb,toksF_blank hb]
    exact lexL_toks f _
   | zero =>
    by_cases hs:x.s=[]
    ·rw [lexL_end hs,hs,toksF_end];simp
    ·by_cases he:(tokenF x.s).2.2=0
     ·obtain ⟨i1,i2,i3⟩:=lexL_toks f { passF x (tokenF x.s).2.1 with nl:=false }
      rw [lexL_tok hb hs he,toksF_tok hb hs he]
      refine ⟨?_,i2,i3⟩
      simp only [List.map_cons]
      rw [i1]
      rfl
     ·rw [lexL_err hb hs he,toksF_err hb hs he]
      simp [he]
theorem lexF_toks {s:List UInt8} (h:s.length≤20000):(lexF s).2.2=(toks s).2∧((toks s).2=0→(lexF s).1.map Tl.t=(toks s).1)∧((toks s).2≠0→(lexF s).1=[]):=by
 obtain ⟨i1,i2,i3⟩:=lexL_toks s.length ⟨s,1,false⟩
 rw [lexF_eq h]
 unfold toks
 cases hr:lexL s.length ⟨s,1,false⟩ with
 | mk l e =>
  rw [hr] at i1 i2 i3
  cases e with
  | none =>
   simp only at i1 i2 i3 ⊢
   exact ⟨i2,fun _=>i1,fun hh=>absurd i2.symm hh⟩
  | some p =>
   simp only at i1 i2 ⊢
   exact ⟨i2,fun hh=>absurd hh (i3 rfl),by simp⟩
theorem toksF_join (r:List UInt8) : ∀ {f g:Nat} {s:List UInt8},s.length≤f→(s++10::r).length≤g→(toksF f s).2≠23 →
  toksF g (s++10::r)=if (toksF f s).2=0 then ((toksF f s).1++(toks r).1,(toks r).2) else toksF f s
 | f,0,s,_,h,_=>by simp at h
 | f,g+1,[],h,h',_=>by
  rw [toksF_end,List.nil_append,toksF_blank (n:=0) (by simp [blankN,spacesL])]
  simp only [List.nil_append,List.length_cons,Nat.add_le_add_iff_right] at h'
  simp only [if_true,List.nil_append,Nat.zero_add,List.drop_succ_cons,List.drop_zero]
  exact toksF_fuel h' (Nat.le_refl _)
 | 0,g+1,c::s,h,_,_=>by simp at h
 | f+1,g+1,c::s,h,h',he=>by
  have hs:c::s≠[]:=by simp
  generalize c::s=t at hs h h' he
  have hlt:(t++10::r).length=t.length+r.length+1:=by simp;omega
  cases hb:blankN t with
  | none=>rw [toksF_bad hb] at he;exact absurd rfl he
  | some n =>
   have hb':=(blank_stop r hs (by rw [hb];simp)).trans hb
   have hn:=blankN_le _ hb
   cases n with
   | succ n =>
    rw [toksF_blank hb] at he ⊢
    rw [toksF_blank hb',drop_app hn]
    exact toksF_join r (by rw [List.length_drop];omega) (by rw [List.length_append,List.length_drop];simp only [List.length_cons];omega) he
   | zero =>
    have ht:=token_stop r hs
    by_cases ht0:(tokenF t).2.2=0
    ·obtain ⟨hp,hle,_⟩:=token_ok ht0
     rw [toksF_tok hb hs ht0] at he ⊢
     rw [toksF_tok hb' (by simp) (by rw [ht];exact ht0),ht,drop_app hle]
     rw [toksF_join r (f:=f) (g:=g) (s:=t.drop (tokenF t).2.1) (by rw [List.length_drop];omega) (by rw [List.length_append,List.length_drop];simp only [List.length_cons];omega) he]
     simp only
     split
     ·simp
     ·rfl
    ·rw [toksF_err hb hs ht0] at he ⊢
     rw [toksF_err hb' (by simp) (by rw [ht];exact ht0),ht]
     simp [ht0]
theorem toks_join (s r:List UInt8) (h:(toks s).2≠23):toks (s++10::r)=if (toks s).2=0 then ((toks s).1++(toks r).1,(toks r).2) else toks s :=
 toksF_join r (Nat.le_refl _) (Nat.le_refl _) h
theorem toks_nl (r:List UInt8):toks (10::r)=toks r:=by
 have:=toks_join [] r (by simp [toks,toksF])
 simpa [toks,toksF] using this
theorem toks_blank {n:Nat} {s:List UInt8} (h:blankN s=some (n+1)):toks s=toks (s.drop (n+1)):=by
 have hn:=blankN_le _ h
 unfold toks
 rw [show s.length=(s.length-1)+1 by omega,toksF_blank h]
 exact toksF_fuel (by rw [List.length_drop];omega) (Nat.le_refl _)
theorem index_no : ∀ {l:List UInt8} {c:UInt8},(∀ b ∈ l,b≠c)→Lib.indexByte l c = -1
 | [],_,_=>rfl
 | b::l,c,h=>by
  have h1:=h b (List.mem_cons_self ..)
  have h2:=index_no (l:=l) (c:=c) (fun x hx=>h x (List.mem_cons_of_mem _ hx))
  simp [Lib.indexByte,h1,h2]
theorem toks_comment {c:List UInt8} (h : ∀ b ∈ c,b≠10):toks (47::47::c)=([],0):=by
 have h1:Lib.indexByte (47::47::c) 10 = -1:=index_no (fun b hb=>by
  simp only [List.mem_cons] at hb
  rcases hb with rfl | rfl | hb
  ·decide
  ·decide
  ·exact h b hb)
 have hb:blankN (47::47::c)=some ((c.length+1)+1):=by
  simp only [blankN,h1]
  simp [spacesL]
 rw [toks_blank hb]
 have:(47::47::c).drop ((c.length+1)+1)=[]:=by simp
 rw [this]
 rfl
theorem toks_comment_nl {c:List UInt8} (h : ∀ b ∈ c,b≠10) (r:List UInt8):toks (47::47::c++10::r)=toks r:=by
 have h1:=toks_comment h
 rw [toks_join _ _ (by rw [h1];decide),h1]
 simp
theorem toks_blanks {c:List UInt8} (h : ∀ b ∈ c,b≠10) (s t:List UInt8) (hs:(toks s).2≠23) (ht:(toks s).2=0→(toks t).2≠23) :
  toks (32::9::(47::47::c++10::(s++10::(47::47::c++10::13::(t++10::47::47::c))))) =
   if (toks s).2≠0 then toks s else if (toks t).2≠0 then ((toks s).1++(toks t).1,(toks t).2) else ((toks s).1++(toks t).1,0):=by
 rw [toks_blank (n:=0) (by simp [blankN,spacesL])]
 simp only [Nat.zero_add,List.drop_succ_cons,List.drop_zero]
 rw [toks_blank (n:=0) (by simp [blankN,spacesL])]
 simp only [Nat.zero_add,List.drop_succ_cons,List.drop_zero]
 rw [toks_comment_nl h,toks_join _ _ hs]
 by_cases h1:(toks s).2=0
 ·simp only [h1,if_true,ne_eq,not_true_eq_false,if_false]
  rw [toks_comment_nl h,toks_blank (n:=0) (s:=13::(t++10::47::47::c)) (by simp [blankN,spacesL])]
  simp only [Nat.zero_add,List.drop_succ_cons,List.drop_zero]
  rw [toks_join _ _ (ht h1),toks_comment h]
  by_cases h2:(toks t).2=0
  ·simp [h2]
  ·simp [h2]
 ·simp [h1]
def linesOk (bound:Nat):Nat→List Tl→Prop
 | _,[]=>True
 | last,t::l=>last≤t.line∧t.line≤bound∧t.nl=decide (last<t.line)∧linesOk bound t.line l
theorem pass_line {x:Sc} {n last bound:Nat} (hb:x.line+x.s.count 10≤bound) (hl:last≤x.line) (hn:x.nl=decide (last<x.line)) :
  (passF x n).line+(passF x n).s.count 10≤bound∧last≤(passF x n).line∧(passF x n).nl=decide (last<(passF x n).line):=by
 have h1:x.s.count 10=(x.s.take n).count 10+(x.s.drop n).count 10:=by rw [← List.count_append,List.take_append_drop]
 refine ⟨by simp only [passF];omega,by simp only [passF];omega,?_⟩
 simp only [passF,hn]
 by_cases h2:last<x.line
 ·have:last<x.line+(x.s.take n).count 10:=by omega
  simp [h2,this]
 ·have:last=x.line:=by omega
  subst this
  simp
theorem lexL_lines {bound:Nat} : ∀ {f last:Nat} {x:Sc},x.line+x.s.count 10≤bound→last≤x.line→x.nl=decide (last<x.line) →
  linesOk bound last (lexL f x).1∧(∀ p,(lexL f x).2=some p→last≤p.1∧p.1≤bound)
 | 0,_,x,_,_,_=>by simp [lexL,linesOk]
 | f+1,last,x,hb,hl,hn=>by
  cases hk:blankN x.s with
  | none =>
   rw [lexL_bad hk]
   refine ⟨trivial,fun p hp => ?_⟩
   injection hp with hp
   subst hp
   exact ⟨hl,by show x.line≤_;omega⟩
  | some n =>
   cases n with
   | succ n =>
    rw [lexL_blank hk]
    obtain ⟨h1,h2,h3⟩:=pass_line (n:=n+1) hb hl hn
    exact lexL_lines h1 h2 h3
   | zero =>
    by_cases hs:x.s=[]
    ·rw [lexL_end hs];simp [linesOk]
    ·by_cases he:(tokenF x.s).2.2=0
     ·obtain ⟨_,_,hno⟩:=token_ok he
      have hc:(x.s.take (tokenF x.s).2.1).count 10=0:=List.count_eq_zero.2 (fun hm=>hno 10 hm rfl)
      obtain ⟨h1,h2,h3⟩:=pass_line (n:=(tokenF x.s).2.1) hb hl hn
      have hline:(passF x (tokenF x.s).2.1).line=x.line:=by simp [passF,hc]
      rw [lexL_tok hk hs he]
      obtain ⟨i1,i2⟩:=lexL_lines (f:=f) (last:=x.line) (x:={ passF x (tokenF x.s).2.1 with nl:=false }) h1 (by show _≤(passF x _).line;omega) (by show false=decide (_<(passF x _).line);rw [hline];simp)
      refine ⟨⟨hl,by show x.line≤_;omega,hn,i1⟩,fun p hp => ?_⟩
      have:=i2 p hp
      omega
     ·rw [lexL_err hk hs he]
      refine ⟨trivial,fun p hp => ?_⟩
      injection hp with hp
      subst hp
      exact ⟨hl,by show x.line≤_;omega⟩
theorem lexF_lines {s:List UInt8} (h:s.length≤20000):linesOk (1+s.count 10) 1 (lexF s).1∧((lexF s).2.2≠0→(lexF s).1=[]∧1≤(lexF s).2.1∧(lexF s).2.1≤1+s.count 10)∧((lexF s).2.2=0→(lexF s).2.1=0):=by
 obtain ⟨i1,i2⟩:=lexL_lines (bound:=1+s.count 10) (f:=s.length) (last:=1) (x:=⟨s,1,false⟩) (Nat.le_refl _) (Nat.le_refl _) (by simp)
 obtain ⟨_,j2,j3⟩:=lexL_toks s.length ⟨s,1,false⟩
 rw [lexF_eq h]
 cases hr:lexL s.length ⟨s,1,false⟩ with
 | mk l e =>
  rw [hr] at i1 i2 j2 j3
  cases e with
  | none=>exact ⟨i1,fun hh=>absurd rfl hh,fun _=>rfl⟩
  | some p =>
   refine ⟨trivial,fun _=>⟨rfl,i2 p rfl⟩,fun hh => ?_⟩
   exact absurd (j2.symm.trans hh) (j3 rfl)
theorem blanksF_zero {f:Nat} {x:Sc} (h:blankN x.s=some 0):blanksF f x=(true,x):=by
 cases f with
 | zero=>rfl
 | succ f=>simp only [blanksF,h]
theorem lexGo_end {f m:Nat} {x:Sc} (h:x.s=[]):lexGo f x m=([],none):=by
 cases f with
 | zero=>rfl
 | succ f =>
  have hb:blankN x.s=some 0:=by rw [h];rfl
  simp only [lexGo,blanksF_zero hb,h]
  simp
theorem lexGo_tok {f m:Nat} {x:Sc} (hs:x.s≠[]) (hb:blankN x.s=some 0) (he:(tokenF x.s).2.2=0) :
  lexGo (f+1) x m=if m=20000 then ([],some (x.line,20)) else (⟨(tokenF x.s).1,x.line,x.nl⟩::(lexGo f { passF x (tokenF x.s).2.1 with nl:=false } (m+1)).1,(lexGo f { passF x (tokenF x.s).2.1 with nl:=false } (m+1)).2):=by
 simp only [lexGo,blanksF_zero hb,hs,he]
 simp
theorem one_tok {s:List UInt8} (hs:s≠[]) (hb:blankN s=some 0) (he:(tokenF s).2.2=0) (hn:(tokenF s).2.1=s.length) (hl:s.length≤65536):lexF s=([⟨(tokenF s).1,1,false⟩],0,0):=by
 rw [lexF,if_neg (by omega),lexGo_tok (x:=⟨s,1,false⟩) hs hb he,if_neg (by decide),lexGo_end (by simp [passF,hn])]
theorem lexGo_semis : ∀ {k f m:Nat},k<f→m≤20000→lexGo f ⟨List.replicate k 59,1,false⟩ m=(List.replicate (min k (20000-m)) ⟨⟨5,[59],0⟩,1,false⟩,if m+k≤20000 then none else some (1,20))
 | 0,f,m,_,hm=>by
  rw [lexGo_end rfl]
  simp [hm]
 | k+1,0,m,h,_=>by omega
 | k+1,f+1,m,h,hm=>by
  have ht:tokenF (List.replicate (k+1) 59)=(⟨5,[59],0⟩,1,0):=by
   rw [List.replicate_succ]
   have h1:letterB 59=false:=by decide
   have h2:digitB8 59=false:=by decide
   have h3 : ∀ r,beginsF (59::r) signs5=0:=fun r=>by simp [beginsF,signs5,List.isPrefixOf]
   have h4:signs1.contains 59=true:=by decide
   simp only [tokenF,h1,h2,h3,h4]
   simp
  have hb:blankN (List.replicate (k+1) 59)=some 0:=by
   rw [List.replicate_succ]
   simp [blankN,spacesL,List.isPrefixOf]
  have he:(tokenF (List.replicate (k+1) 59)).2.2=0:=by rw [ht]
  rw [lexGo_tok (x:=⟨List.replicate (k+1) 59,1,false⟩) (by simp) hb he]
  simp only [ht]
  have hp:({ passF ⟨List.replicate (k+1) 59,1,false⟩ 1 with nl:=false }:Sc)=⟨List.replicate k 59,1,false⟩:=by
   simp [passF,List.replicate_succ]
  rw [hp]
  by_cases hm':m=20000
  ·subst hm'
   have:¬ (20000+(k+1)≤20000):=by omega
   simp [this]
  ·rw [if_neg hm',lexGo_semis (k:=k) (f:=f) (m:=m+1) (by omega) (by omega)]
   have e1:min (k+1) (20000-m)=min k (20000-(m+1))+1:=by omega
   rw [e1,List.replicate_succ]
   have e2:(m+1+k≤20000)=(m+(k+1)≤20000):=by congr 1;omega
   simp only [e2]
theorem lex_semis {k:Nat} (h:k≤65536):(lexF (List.replicate k 59)).2=if k≤20000 then (0,0) else (1,20):=by
 rw [lexF,if_neg (by simp;omega),lexGo_semis (by simp) (by omega)]
 by_cases hk:k≤20000
 ·simp [hk]
 ·simp [hk]
theorem letter_blank {c:UInt8} {s:List UInt8} (h:letterB c=true∨digitB8 c=true∨c=34):blankN (c::s)=some 0:=by
 have h1:spacesL.contains c=false:=by
  cases hc:spacesL.contains c with
  | false=>rfl
  | true =>
   have:c=32∨c=9∨c=13∨c=10:=by simpa [spacesL] using hc
   rcases this with rfl | rfl | rfl | rfl <;> revert h <;> decide
 have h2:c≠47:=by rintro rfl;revert h;decide
 have h3:(47==c)=false:=by simpa using Ne.symm h2
 simp only [blankN,h3,h1,List.isPrefixOf,Bool.false_and,Bool.false_eq_true,if_false]
theorem tw_all {p:UInt8→Bool} : ∀ {l:List UInt8},l.all p=true→(l.takeWhile p).length=l.length
 | [],_=>rfl
 | c::l,h=>by
  simp only [List.all_cons,Bool.and_eq_true] at h
  simp only [List.takeWhile,h.1,List.length_cons,tw_all h.2]
theorem lex_word {c:UInt8} {s:List UInt8} (h:letterB c=true) (ha:(c::s).all partB8=true) (hl:(c::s).length≤65536) :
  lexF (c::s)=([⟨⟨if wordB (c::s) then 2 else 1,c::s,0⟩,1,false⟩],0,0):=by
 have hn:namesB (c::s)=(c::s).length:=tw_all ha
 have ht:tokenF (c::s)=(⟨if wordB (c::s) then 2 else 1,c::s,0⟩,(c::s).length,0):=by
  simp only [tokenF,h,if_true,hn,List.take_length]
 rw [one_tok (by simp) (letter_blank (.inl h)) (by rw [ht]) (by rw [ht]) hl,ht]
theorem lex_name {s:List UInt8} (h:nameB s=true) (hl:s.length≤65536):lexF s=([⟨⟨1,s,0⟩,1,false⟩],0,0):=by
 cases s with
 | nil=>simp [nameB] at h
 | cons c s =>
  simp only [nameB,Bool.and_eq_true,Bool.not_eq_true'] at h
  obtain ⟨⟨h1,h2⟩,h3⟩:=h
  rw [lex_word h1 h2 hl,h3]
  rfl
theorem word_form : ∀ k:Fin 188,endAt k.val=true→((wordTo k.val).head?.map letterB)=some true∧(wordTo k.val).all partB8=true:=by decide +kernel
theorem seen_form {s:List UInt8} : ∀ {k:Nat},k≤188→seenW s k=true→(s.head?.map letterB)=some true∧s.all partB8=true
 | 0,_,h=>by simp [seenW] at h
 | k+1,hk,h=>by
  simp only [seenW,Bool.or_eq_true,Bool.and_eq_true,decide_eq_true_eq] at h
  rcases h with h | ⟨h1,h2⟩
  ·exact seen_form (by omega) h
  ·have:=word_form ⟨k,by omega⟩ h1
   rw [← h2]
   exact this
theorem wordsText_size:wordsText.size=187:=by decide +kernel
theorem lex_isword {s:List UInt8} (h:wordB s=true) (hl:s.length≤65536):lexF s=([⟨⟨2,s,0⟩,1,false⟩],0,0)∧nameB s=false:=by
 have hf:(s.head?.map letterB)=some true∧s.all partB8=true:=by
  have h1:=h
  unfold wordB at h1
  rw [wordsText_size] at h1
  exact seen_form (Nat.le_refl _) h1
 cases s with
 | nil=>simp at hf
 | cons c s =>
  have hc:letterB c=true:=by simpa using hf.1
  rw [lex_word hc hf.2 hl,h]
  refine ⟨rfl,?_⟩
  simp [nameB,h]
theorem hexB_hexC : ∀ q:Fin 16,hexB (hexC q.val)=true∧hexV (hexC q.val)=q.val:=by decide
theorem quoted_quote : ∀ {s:List UInt8} {f:Nat},(s.flatMap quoteC).length<f→quotedF 34 f (s.flatMap quoteC++[34])=some (s,(s.flatMap quoteC).length+1)
 | [],0,h=>by simp at h
 | [],f+1,_=>by simp [quotedF]
 | c::s,0,h=>by simp at h
 | c::s,f+1,h=>by
  rw [List.flatMap_cons,List.append_assoc]
  rw [List.flatMap_cons,List.length_append] at h
  have step : ∀ {u:UInt8} {r:List UInt8} {k:Nat},escapedF (r++(s.flatMap quoteC++[34]))=some (u,r.length)→0<r.length→(92::r).length+(s.flatMap quoteC).length<f+1 →
    quotedF 34 (f+1) (92::r++(s.flatMap quoteC++[34]))=some (u::s,(92::r).length+(s.flatMap quoteC).length+1):=by
   intro u r k he hr hf
   simp only [List.length_cons] at hf
   simp only [List.cons_append,quotedF,he]
   rw [if_neg (by decide)]
   simp only [if_true,List.drop_left]
   rw [quoted_quote (s:=s) (f:=f) (by omega)]
   simp only [Option.map_some,Option.some.injEq,Prod.mk.injEq,List.length_cons,true_and]
   omega
  by_cases h1:c=10
  ·subst h1
   have hq:quoteC 10=92::[110]:=rfl
   rw [hq] at h ⊢
   rw [step (u:=10) (k:=0) (by simp [escapedF]) (by decide) h,List.length_append]
  ·by_cases h2:c=9
   ·subst h2
    have hq:quoteC 9=92::[116]:=rfl
    rw [hq] at h ⊢
    rw [step (u:=9) (k:=0) (by simp [escapedF]) (by decide) h,List.length_append]
   ·by_cases h3:c=34∨c=92
    ·have hq:quoteC c=92::[c]:=by simp only [quoteC,h1,h2,h3,if_true,if_false]
     rw [hq] at h ⊢
     rw [step (u:=c) (k:=0) (by rcases h3 with rfl | rfl <;> simp [escapedF]) (by simp) h,List.length_append]
    ·by_cases h4:32≤c.toNat∧c.toNat≤126
     ·have hq:quoteC c=[c]:=by simp only [quoteC,h1,h2,h3,h4,if_true,if_false,and_self]
      rw [hq] at h ⊢
      have h34:c≠34:=fun e=>h3 (.inl e)
      have h92:c≠92:=fun e=>h3 (.inr e)
      have h5:¬ (c.toNat<32∨126<c.toNat):=by omega
      simp only [List.length_cons,List.length_nil] at h
      simp only [List.cons_append,List.nil_append,quotedF,if_neg h34,if_neg h92,if_neg h5]
      rw [quoted_quote (s:=s) (f:=f) (by omega)]
      simp
     ·have hlt:=c.toNat_lt
      have hq:quoteC c=92::[120,hexC (c.toNat / 16),hexC (c.toNat % 16)]:=by
       simp only [quoteC,h1,h2,h3,if_false]
       rw [if_neg h4]
      have x1:=hexB_hexC ⟨c.toNat / 16,by omega⟩
      have x2:=hexB_hexC ⟨c.toNat % 16,by omega⟩
      simp only at x1 x2
      rw [hq] at h ⊢
      rw [step (u:=c) (k:=0) (by
       simp only [List.cons_append,List.nil_append,escapedF,x1.1,x1.2,x2.1,x2.2]
       have e:16*(c.toNat / 16)+c.toNat % 16=c.toNat:=by omega
       rw [e]
       simp) (by simp) h,List.length_append]
theorem quoteC_len (c:UInt8):(quoteC c).length≤4:=by
 unfold quoteC
 repeat (first | split | simp)
theorem quoteL_len : ∀ s:List UInt8,(s.flatMap quoteC).length≤4*s.length
 | []=>by simp
 | c::s=>by
  have:=quoteL_len s
  have:=quoteC_len c
  simp only [List.flatMap_cons,List.length_append,List.length_cons]
  omega
theorem lex_quote {s:List UInt8} (hl:s.length≤3000):lexF (quoteL s)=([⟨⟨4,s,0⟩,1,false⟩],0,0):=by
 have h4:=quoteL_len s
 have hq:quoteL s=34::(s.flatMap quoteC++[34]):=by simp [quoteL]
 have ht:tokenF (34::(s.flatMap quoteC++[34]))=(⟨4,s,0⟩,(s.flatMap quoteC).length+1+1,0):=by
  have h1:letterB 34=false:=by decide
  have h2:digitB8 34=false:=by decide
  simp only [tokenF,h1,h2]
  rw [if_neg (by simp),if_neg (by simp),if_pos (by simp),quoted_quote (by simp only [List.length_append,List.length_cons];omega)]
 rw [hq,one_tok (by simp) (letter_blank (.inr (.inr rfl))) (by rw [ht]) (by rw [ht];simp only [List.length_append,List.length_cons,List.length_nil]) (by simp only [List.length_append,List.length_cons,List.length_nil];omega),ht]
theorem lex_number {c:UInt8} {s:List UInt8} (ha:(c::s).all digitB8=true) (hl:(c::s).length≤15) (h0:c=48→s=[]) :
  lexF (c::s)=([⟨⟨3,[],numV (c::s)⟩,1,false⟩],0,0):=by
 have hd:digitB8 c=true:=by simp only [List.all_cons,Bool.and_eq_true] at ha;exact ha.1
 have hnl:letterB c=false:=by
  cases hc:letterB c with
  | false=>rfl
  | true =>
   exfalso
   simp only [letterB,letterI,digitB8,digitI,Bool.or_eq_true,Bool.and_eq_true,decide_eq_true_eq,beq_iff_eq] at hc hd
   omega
 have h1:((c::s).takeWhile digitB8).length=(c::s).length:=tw_all ha
 have hp:(c::s).all partB8=true:=by
  rw [List.all_eq_true] at ha ⊢
  intro b hb
  have:=ha b hb
  simp only [digitB8] at this
  simp [partB8,this]
 have h2:namesB (c::s)=(c::s).length:=tw_all hp
 have h3:¬ (1<(c::s).length∧(c::s).head? = some 48):=by
  rintro ⟨h4,h5⟩
  simp only [List.head?_cons,Option.some.injEq] at h5
  rw [h0 h5] at h4
  simp at h4
 have ht:tokenF (c::s)=(⟨3,[],numV (c::s)⟩,(c::s).length,0):=by
  simp only [tokenF,hnl,hd,if_true]
  rw [if_neg (by simp)]
  simp only [numberF,h1,h2,List.take_length,List.drop_length]
  rw [if_neg (by simp),if_neg (by rintro (h | h | h);exact h rfl;omega;exact h3 h)]
 rw [one_tok (by simp) (letter_blank (.inr (.inl hd))) (by rw [ht]) (by rw [ht]) (by omega),ht]
theorem lex_as {n:Nat} (h:n≤65536) (h0:0<n):(lexF (List.replicate n 97)).2=(0,0):=by
 obtain ⟨k,rfl⟩ : ∃ k,n=k+1:=⟨n-1,by omega⟩
 rw [List.replicate_succ,lex_word (by decide) (by rw [List.all_eq_true];intro b hb;rw [← List.replicate_succ] at hb;rw [(List.mem_replicate.1 hb).2];decide) (by simpa using h)]
theorem lex_long {s:List UInt8} (h:65536<s.length):lexF s=([],0,20):=by rw [lexF,if_pos h]
end
section
open Go.RowKit
theorem gn_space:Tryz.prog.globalNamed "strings.asciiSpace" = some 1:=by kernel_rfl
theorem gn_pow:Tryz.prog.globalNamed "internal/strconv.uint64pow10" = some 4:=by kernel_rfl
structure Laid (w:World):Prop where
 sp:Lib.TabIs Tryz.prog w "strings.asciiSpace" .u8 Lib.asciiSpaceTab
 pow:Lib.TabIs Tryz.prog w "internal/strconv.uint64pow10" .u64 Lib.pow10Tab
theorem tab_keep {n:String} {g:Nat} {k:IntKind} {zs:List Int} {w w':World} (hg:Tryz.prog.globalNamed n=some g) (h:Lib.TabIs Tryz.prog w n k zs) (hb:w'.heap[g]? = w.heap[g]?):Lib.TabIs Tryz.prog w' n k zs:=by
 unfold Lib.TabIs World.var? at h ⊢
 rw [hg] at h ⊢
 simp only [Option.bind_some] at h ⊢
 rw [hb]
 exact h
theorem tab_lt {n:String} {g:Nat} {k:IntKind} {zs:List Int} {w:World} (hg:Tryz.prog.globalNamed n=some g) (h:Lib.TabIs Tryz.prog w n k zs):g<w.heap.size:=by
 unfold Lib.TabIs World.var? at h
 rw [hg] at h
 simp only [Option.bind_some] at h
 rcases Nat.lt_or_ge g w.heap.size with h' | h'
 ·exact h'
 ·rw [Array.getElem?_eq_none h'] at h;cases h
theorem Laid.keep {w w':World} (h:Laid w) (hb : ∀ k,k<w.heap.size→w'.heap[k]? = w.heap[k]?):Laid w' :=
 ⟨tab_keep gn_space h.sp (hb _ (tab_lt gn_space h.sp)),tab_keep gn_pow h.pow (hb _ (tab_lt gn_pow h.pow))⟩
theorem Laid.below {w w':World} (h:Laid w) (hb:Below w.heap.size w w'):Laid w':=h.keep hb.block
theorem Laid.turn {w w':World} (h:Laid w) {B:Nat} (hB : ∀ g,g=1∨g=4→g<B) (hb:Below B w w'):Laid w' :=
 ⟨tab_keep gn_space h.sp (hb.block _ (hB _ (.inl rfl))),tab_keep gn_pow h.pow (hb.block _ (hB _ (.inr rfl)))⟩
theorem Laid.lt {w:World} (h:Laid w) (g:Nat) (hg:g=1∨g=4):g<w.heap.size:=by
 rcases hg with rfl | rfl
 ·exact tab_lt gn_space h.sp
 ·exact tab_lt gn_pow h.pow
theorem Laid.space {w:World} (h:Laid w) (i:Nat) (hi:i<256):w.cell? ⟨1,i,none⟩=some (.int .u8 (if Lib.isSp (UInt8.ofNat i) then 1 else 0)):=by
 have:=h.sp.cell gn_space i (by rw [Lib.asciiSpaceTab_length];exact hi)
 rwa [Lib.asciiSpaceTab_at i hi] at this
theorem words_space : ∀ k:Fin 187,Lib.isSp (wordsText.data.toList.getD k.val 0)=endAt k.val:=by decide +kernel
end
end Go.Proofs.YtjjdmiaonkailaaGreatDoor
