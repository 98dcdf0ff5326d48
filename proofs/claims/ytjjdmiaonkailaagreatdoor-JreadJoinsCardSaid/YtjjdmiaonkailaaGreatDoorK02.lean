/- Walks and plain laws, packed: Spec, LexS, Par. -/
import Derived.Test.YtjjdmiaonkailaaGreatDoorK01
import Derived.Lib.ItoaNum
import Derived.Lib.Join
import Derived.Lib.Index
import Derived.Lib.IndexMore
import Derived.Lib.IndexAny
import Derived.Lib.Strings
namespace Go.Proofs.YtjjdmiaonkailaaGreatDoor
section
open Go.RowKit
def letterI (c:Int):Bool:=(decide (97≤c)&&decide (c≤122))||(decide (65≤c)&&decide (c≤90))||c==95||c==36
def digitI (c:Int):Bool:=decide (48≤c)&&decide (c≤57)
def letterB (c:UInt8):Bool:=letterI c.toNat
def partB8 (c:UInt8):Bool:=letterI c.toNat||digitI c.toNat
def wordsText:ByteArray := "break case catch continue debugger default delete do else finally for function if in instanceof new return switch this throw try typeof var void while with null true false undefined input".toUTF8
def endAt (k:Nat):Bool:=decide (wordsText.size≤k)||decide (wordsText.data.toList[k]? = some 32)
def fromAt:Nat→Nat
 | 0=>0
 | k+1=>if endAt k then k+1 else fromAt k
def wordTo (k:Nat):List UInt8:=(wordsText.data.toList.take k).drop (fromAt k)
def seenW (s:List UInt8):Nat→Bool
 | 0=>false
 | k+1=>seenW s k||(endAt k&&decide (wordTo k=s))
def wordB (s:List UInt8):Bool:=seenW s (wordsText.size+1)
def namesB (s:List UInt8):Nat:=(s.takeWhile partB8).length
def nameB (s:List UInt8):Bool :=
 match s with
 | []=>false
 | c::_=>letterB c&&s.all partB8 && !wordB s
def signsL:List (List UInt8):=[[43],[45],[42],[60],[60,61],[61,61,61],[33,61,61]]
def signB (s:List UInt8):Bool:=decide (s ∈ signsL)
def testB (k:Int) (s:List UInt8):Bool :=
 if k=1∨k=30∨k=35∨k=38∨k=41 then nameB s
 else if k=3∨k=12 then true
 else if k=10 then s.isEmpty||nameB s
 else if k=13 then nameB s||wordB s
 else if k=18 then signB s
 else s.isEmpty
def exprK (op:Int):Bool:=decide (1≤op)&&decide (op≤23) && !(op==12)
def stmtK (op:Int):Bool:=decide (30≤op)&&decide (op≤41)
def partB (k:Int) (len i:Nat) (op:Int):Bool :=
 if k=10∨k=41 then (if i+1=len then op==32 else op==1)
 else if k=11 then op==12
 else if k=32 then stmtK op
 else if k=17∧i=0 then op==1||op==13||op==14
 else if k=38 then op==32
 else if (k=33∨k=34∨k=35)∧0<i then op==32
 else exprK op
def numB (op n:Int):Bool:=n==0||(op==2&&decide (0≤n)&&decide (n≤999999999999999))
def kidsB (R:Tree→Bool) (k:Int) (len:Nat):Nat→List Tree→Bool
 | _,[]=>true
 | i,u::us=>partB k len i u.op&&R u&&kidsB R k len (i+1) us
def fitStep (R:Tree→Bool) (t:Tree):Bool :=
 match formF t.op with
 | none=>false
 | some (_,lo,hi)=>testB t.op t.s.data.toList&&decide (lo≤t.l.length)&&decide ((t.l.length:Int)≤hi)&&numB t.op t.n&&kidsB R t.op t.l.length 0 t.l
def fitsB:Nat→Tree→Bool
 | 0,_=>false
 | h+1,t=>fitStep (fitsB h) t
def hexC (n:Nat):UInt8:=if n<10 then UInt8.ofNat (48+n) else UInt8.ofNat (87+n)
def quoteC (c:UInt8):List UInt8 :=
 if c=10 then [92,110] else if c=9 then [92,116] else if c=34∨c=92 then [92,c]
 else if 32≤c.toNat∧c.toNat≤126 then [c] else [92,120,hexC (c.toNat / 16),hexC (c.toNat % 16)]
def quoteL (s:List UInt8):List UInt8:=[34]++s.flatMap quoteC++[34]
def wordOf (k:Int):List UInt8 :=
 if k=4 then [116,114,117,101] else if k=5 then [102,97,108,115,101] else if k=6 then [110,117,108,108]
 else if k=7 then [117,110,100,101,102,105,110,101,100] else if k=8 then [116,104,105,115] else [105,110,112,117,116]
def funL (ts:List (List UInt8)):List UInt8:=[40]++Lib.join ts.dropLast [44,32]++[41,32]++ts.getLastD []
def linesL (R:Tree→List UInt8→List UInt8) (l:List Tree) (i:List UInt8):List UInt8:=l.flatMap fun u=>i++R u i++[10]
def signOf (k:Int) (s:List UInt8):List UInt8:=if k=17 then [61] else if k=21 then [38,38] else if k=22 then [124,124] else s
def stepT (R:Tree→List UInt8→List UInt8) (t:Tree) (i:List UInt8):List UInt8 :=
 let ts:=t.l.map fun u=>R u i
 let c:=fun k:Nat=>ts.getD k []
 let s:=t.s.data.toList
 let k:=t.op
 if k=1 then s
 else if k=2 then Lib.itoa t.n
 else if k=3 then quoteL s
 else if 4≤k∧k≤9 then wordOf k
 else if k=10 then [40,102,117,110,99,116,105,111,110]++(if s=[] then [] else 32::s)++funL ts++[41]
 else if k=11 then [40,123]++Lib.join ts [44,32]++[125,41]
 else if k=12 then quoteL s++[58,32]++c 0
 else if k=13 then (if (t.l.map Tree.op).getD 0 0=2 then [40]++c 0++[41,46] else c 0++[46])++s
 else if k=14 then c 0++[91]++c 1++[93]
 else if k=15 then c 0++[40]++Lib.join ts.tail [44,32]++[41]
 else if k=16 then [40,110,101,119,32]++(if (t.l.map Tree.op).getD 0 0=1 then c 0 else [40]++c 0++[41])++[40]++Lib.join ts.tail [44,32]++[41,41]
 else if k=19 then [40,33]++c 0++[41]
 else if k=20 then [40,45]++c 0++[41]
 else if k=23 then [40]++c 0++[32,63,32]++c 1++[32,58,32]++c 2++[41]
 else if k≤23 then [40]++c 0++[32]++signOf k s++[32]++c 1++[41]
 else if k=30 then [118,97,114,32]++s++(if ts=[] then [] else [32,61,32]++c 0)++[59]
 else if k=31 then c 0++[59]
 else if k=32 then [123,10]++linesL R t.l (i++[32,32])++i++[125]
 else if k=33 then [105,102,32,40]++c 0++[41,32]++c 1++(if ts.length=3 then [32,101,108,115,101,32]++c 2 else [])
 else if k=34 then [119,104,105,108,101,32,40]++c 0++[41,32]++c 1
 else if k=35 then [102,111,114,32,40,118,97,114,32]++s++[32,105,110,32]++c 0++[41,32]++c 1
 else if k=36 then (if ts=[] then [114,101,116,117,114,110] else [114,101,116,117,114,110,32]++c 0)++[59]
 else if k=37 then [116,104,114,111,119,32]++c 0++[59]
 else if k=38 then [116,114,121,32]++c 0++[32,99,97,116,99,104,32,40]++s++[41,32]++c 1
 else if k=39 then [98,114,101,97,107,59]
 else if k=40 then [99,111,110,116,105,110,117,101,59]
 else [102,117,110,99,116,105,111,110,32]++s++funL ts
def T:Nat→Tree→List UInt8→List UInt8
 | 0,_,_=>[]
 | h+1,t,i=>stepT (T h) t i
end
section
open Go.RowKit
def digitB8 (c:UInt8):Bool:=digitI c.toNat
def hexB (c:UInt8):Bool:=(decide (48≤c.toNat)&&decide (c.toNat≤57))||(decide (97≤c.toNat)&&decide (c.toNat≤102))
def hexV (c:UInt8):Nat:=if c.toNat≤57 then c.toNat-48 else c.toNat-87
structure Sc where
 s:List UInt8
 line:Nat
 nl:Bool
def passF (x:Sc) (n:Nat):Sc:=⟨x.s.drop n,x.line+(x.s.take n).count 10,x.nl||decide (0<(x.s.take n).count 10)⟩
def spacesL:List UInt8:=[32,9,13,10]
def blankN:List UInt8→Option Nat
 | []=>some 0
 | c::r =>
  if spacesL.contains c then some 1
  else if [47,47].isPrefixOf (c::r) then some (if Lib.indexByte (c::r) 10<0 then (c::r).length else (Lib.indexByte (c::r) 10).toNat)
  else if [47,42].isPrefixOf (c::r) then (if Lib.index (r.drop 1) [42,47]<0 then none else some ((Lib.index (r.drop 1) [42,47]).toNat+4))
  else some 0
def blanksF:Nat→Sc→Bool × Sc
 | 0,x=>(true,x)
 | f+1,x =>
  match blankN x.s with
  | none=>(false,x)
  | some 0=>(true,x)
  | some (n+1)=>blanksF f (passF x (n+1))
def escapedF:List UInt8→Option (UInt8 × Nat)
 | []=>none
 | c::r =>
  if c=110 then some (10,1)
  else if c=116 then some (9,1)
  else if c=92∨c=34∨c=39 then some (c,1)
  else if c=120 then
   match r with
   | a::b::_=>if hexB a&&hexB b then some (UInt8.ofNat (16*hexV a+hexV b),3) else none
   | _=>none
  else none
def quotedF (q:UInt8):Nat→List UInt8→Option (List UInt8 × Nat)
 | 0,_=>none
 | _+1,[]=>none
 | f+1,c::r =>
  if c=q then some ([],1)
  else if c=92 then
   match escapedF r with
   | none=>none
   | some (x,k)=>(quotedF q f (r.drop k)).map fun p=>(x::p.1,p.2+1+k)
  else if c.toNat<32∨126<c.toNat then none
  else (quotedF q f r).map fun p=>(c::p.1,p.2+1)
structure Tk where
 kind:Int
 s:List UInt8
 n:Int
def Tk.zero:Tk:=⟨0,[],0⟩
def numV (l:List UInt8):Nat:=l.foldl (fun a c=>a*10+(c.toNat-48)) 0
def numberF (s:List UInt8):Tk × Nat × Int :=
 let n:=(s.takeWhile digitB8).length
 if [46].isPrefixOf (s.drop n) then (.zero,0,25)
 else if namesB s≠n∨15<n∨(1<n∧s.head? = some 48) then (.zero,0,24)
 else (⟨3,[],numV (s.take n)⟩,n,0)
def signs5:List (List UInt8):=[[61,61,61],[33,61,61],[60,61],[38,38],[124,124]]
def beginsF (s:List UInt8):List (List UInt8)→Nat
 | []=>0
 | x::l=>if x.isPrefixOf s then x.length else beginsF s l
def signs1:List UInt8:=[123,125,40,41,91,93,46,59,44,58,63,60,61,33,43,45,42,47]
def tokenF (s:List UInt8):Tk × Nat × Int :=
 match s with
 | []=>(.zero,0,21)
 | c::r =>
  if letterB c then (⟨if wordB (s.take (namesB s)) then 2 else 1,s.take (namesB s),0⟩,namesB s,0)
  else if digitB8 c then numberF s
  else if c=34∨c=39 then
   match quotedF c r.length r with
   | none=>(.zero,0,22)
   | some p=>(⟨4,p.1,0⟩,p.2+1,0)
  else if beginsF s signs5=0 then (if signs1.contains c then (⟨5,s.take 1,0⟩,1,0) else (.zero,0,21))
  else (⟨5,s.take (beginsF s signs5),0⟩,beginsF s signs5,0)
structure Tl where
 t:Tk
 line:Nat
 nl:Bool
def lexGo:Nat→Sc→Nat→List Tl × Option (Nat × Int)
 | 0,_,_=>([],none)
 | f+1,x,m =>
  let b:=blanksF x.s.length x
  if b.1=false then ([],some (b.2.line,23))
  else if b.2.s=[] then ([],none)
  else
   let t:=tokenF b.2.s
   if t.2.2≠0 then ([],some (b.2.line,t.2.2))
   else if m=20000 then ([],some (b.2.line,20))
   else
    let r:=lexGo f { passF b.2 t.2.1 with nl:=false } (m+1)
    (⟨t.1,b.2.line,b.2.nl⟩::r.1,r.2)
def lexF (s:List UInt8):List Tl × Nat × Int :=
 if 65536<s.length then ([],0,20)
 else
  match lexGo (s.length+1) ⟨s,1,false⟩ 0 with
  | (l,none)=>(l,0,0)
  | (_,some p)=>([],p.1,p.2)
theorem indexByte_lt : ∀ (l:List UInt8) (c:UInt8),Lib.indexByte l c<l.length
 | [],c=>by simp [Lib.indexByte]
 | b::l,c=>by
  have h:=indexByte_lt l c
  have h0:=Lib.indexByte_ge l c
  unfold Lib.indexByte
  simp only [List.length_cons]
  split
  ·omega
  ·split <;> omega
theorem blankN_le (s:List UInt8) {n:Nat} (h:blankN s=some n):n≤s.length:=by
 cases s with
 | nil=>simp [blankN] at h;omega
 | cons c r =>
  rw [blankN] at h
  split at h
  ·injection h with h;simp;omega
  ·split at h
   ·injection h with h
    subst h
    have h0:=Lib.indexByte_ge (c::r) 10
    have h1:=indexByte_lt (c::r) 10
    split <;> omega
   ·split at h
    ·rename_i h3
     split at h
     ·cases h
     ·injection h with h
      subst h
      have h1:=Lib.index_room (r.drop 1) [42,47] (by omega)
      cases r with
      | nil=>simp at h3
      | cons d r =>
       rename_i h4
       simp only [List.drop_succ_cons,List.drop_zero,List.length_cons,List.length_nil] at h1 h4 ⊢
       omega
    ·injection h with h;omega
end
section
open Go.RowKit
abbrev Rd (α : Type):=Option (Except (Int × Int) (α × List Tl))
def Rd.bind {α β : Type} (x:Rd α) (f : α → List Tl→Rd β):Rd β :=
 match x with
 | none=>none
 | some (.error e)=>some (.error e)
 | some (.ok (a,r))=>f a r
def Rd.ok {α : Type} (a : α) (r:List Tl):Rd α := some (.ok (a,r))
def hereF (last:Nat) (l:List Tl):Tl:=l.headD ⟨.zero,last,false⟩
def atF (ss:List (List UInt8)) (l:List Tl):Bool :=
 match l with
 | []=>false
 | t::_=>(t.t.kind==5||t.t.kind==2)&&ss.contains t.t.s
def failF {α : Type} (last:Nat) (e:Int) (l:List Tl):Rd α := some (.error (e,((hereF last l).line:Int)))
def othersL:List (List UInt8):=[[99,97,115,101],[100,101,98,117,103,103,101,114],[100,101,102,97,117,108,116],[100,101,108,101,116,101],[100,111],[102,105,110,97,108,108,121],[105,110,115,116,97,110,99,101,111,102],[115,119,105,116,99,104],[116,121,112,101,111,102],[118,111,105,100]]
def stopE (last:Nat) (thing:Bool) (l:List Tl):Int :=
 if (hereF last l).t.kind==2&&(hereF last l).t.s==[119,105,116,104] then 42
 else if (hereF last l).t.kind==2&&othersL.contains (hereF last l).t.s then 47
 else if atF [[47]] l then (if thing then 44 else 47)
 else 40
def stopF {α : Type} (last:Nat) (thing:Bool) (l:List Tl):Rd α := failF last (stopE last thing l) l
def mustF (last:Nat) (s:List UInt8) (l:List Tl):Rd Unit:=if atF [s] l then .ok () l.tail else stopF last false l
def nameF (last:Nat) (l:List Tl):Rd (List UInt8):=if (hereF last l).t.kind=1 then .ok (hereF last l).t.s l.tail else stopF last false l
def endF (last:Nat) (l:List Tl):Rd Unit :=
 if atF [[59]] l then .ok () l.tail
 else if (hereF last l).t.kind≠0∧(hereF last l).nl=false∧atF [[125]] l=false then stopF last false l
 else .ok () l
def forbF (s:List UInt8):Bool:=s==[101,118,97,108]||s==[97,114,103,117,109,101,110,116,115]
def plainF (s:List UInt8):Int :=
 if s=[116,114,117,101] then 4 else if s=[102,97,108,115,101] then 5 else if s=[110,117,108,108] then 6
 else if s=[117,110,100,101,102,105,110,101,100] then 7 else if s=[116,104,105,115] then 8 else if s=[105,110,112,117,116] then 9 else 0
def keyB (t:Tl):Bool:=decide (1≤t.t.kind)&&decide (t.t.kind≤4)
def signsN (n:Nat):List (List UInt8) :=
 if n=0 then [[124,124]] else if n=1 then [[38,38]] else if n=2 then [[61,61,61],[33,61,61]] else if n=3 then [[60],[60,61]] else if n=4 then [[43],[45]] else [[42]]
def bytesA (l:List UInt8):ByteArray:=⟨l.toArray⟩
def nd (op:Int) (s:List UInt8) (l:List Tree) (line:Int):Tree := .node op (bytesA s) 0 l line
structure Fns where
 expr:List Tl→Rd Tree
 cond:List Tl→Rd (Tree × Bool)
 level:Nat→List Tl→Rd (Tree × Bool)
 more:Nat→Tree→Bool→List Tl→Rd (Tree × Bool)
 signed:List Tl→Rd (Tree × Bool)
 chain:List Tl→Rd (Tree × Bool)
 members:Bool→Tree→List Tl→Rd Tree
 thing:List Tl→Rd Tree
 args:List Tree→List Tl→Rd (List Tree)
 pairs:List Tree→List Tl→Rd (List Tree)
 names:List Tree→List Tl→Rd (List Tree)
 rest:List Tl→Rd (List Tree)
 block:List Tl→Rd Tree
 stmts:List Tree→List Tl→Rd (List Tree)
 within:List Tl→Rd Tree
 stmt:List Tl→Rd Tree
 word:List UInt8→Int→List Tl→Rd Tree
def exprS (F:Fns) (l:List Tl):Rd Tree :=
 (F.cond l).bind fun p r=>if p.2&&atF [[61]] r then (F.expr r.tail).bind fun y q => .ok (nd 17 [] [p.1,y] p.1.line) q else .ok p.1 r
def condS (last:Nat) (F:Fns) (l:List Tl):Rd (Tree × Bool) :=
 (F.level 0 l).bind fun p r=>if atF [[63]] r then
   (F.expr r.tail).bind fun a r2=>(mustF last [58] r2).bind fun _ r3=>(F.expr r3).bind fun b r4 => .ok (nd 23 [] [p.1,a,b] p.1.line,false) r4
  else .ok p r
def levelS (F:Fns) (n:Nat) (l:List Tl):Rd (Tree × Bool) :=
 if n=6 then F.signed l else (F.level (n+1) l).bind fun p r=>F.more n p.1 p.2 r
def joinT (n:Nat) (s:List UInt8) (x y:Tree):Tree:=nd (if n=0 then 22 else if n=1 then 21 else 18) (if n≤1 then [] else s) [x,y] x.line
def moreS (last:Nat) (F:Fns) (n:Nat) (x:Tree) (bare:Bool) (l:List Tl):Rd (Tree × Bool) :=
 if atF (signsN n) l then (F.level (n+1) l.tail).bind fun p r=>F.more n (joinT n (hereF last l).t.s x p.1) false r else .ok (x,bare) l
def signedS (last:Nat) (F:Fns) (l:List Tl):Rd (Tree × Bool) :=
 if atF [[33]] l then (F.signed l.tail).bind fun p r => .ok (nd 19 [] [p.1] (hereF last l).line,false) r
 else if atF [[45]] l then (F.signed l.tail).bind fun p r => .ok (nd 20 [] [p.1] (hereF last l).line,false) r
 else F.chain l
def argsF (F:Fns) (l:List Tl):Rd (List Tree):=if atF [[41]] l then .ok [] l.tail else F.args [] l
def argsS (last:Nat) (F:Fns) (acc:List Tree) (l:List Tl):Rd (List Tree) :=
 (F.expr l).bind fun x r=>if atF [[44]] r then F.args (acc++[x]) r.tail else (mustF last [41] r).bind fun _ q => .ok (acc++[x]) q
def bareB (closed:Bool) (y:Tree):Bool := !closed&&(y.op==1||y.op==13||y.op==14)
def linkF (F:Fns) (closed:Bool) (x:Tree) (l:List Tl):Rd (Tree × Bool) :=
 (F.members true x l).bind fun y r => .ok (y,bareB (closed&&r.length==l.length) y) r
def chainS (last:Nat) (F:Fns) (l:List Tl):Rd (Tree × Bool) :=
 if atF [[110,101,119]] l then
  (F.thing l.tail).bind fun x r=>(F.members false x r).bind fun y r2 =>
   if atF [[40]] r2 then (argsF F r2.tail).bind fun ys r3=>linkF F (atF [[40]] l) (nd 16 [] (y::ys) (hereF last l).line) r3
   else linkF F (atF [[40]] l) (nd 16 [] [y] (hereF last l).line) r2
 else (F.thing l).bind fun x r=>linkF F (atF [[40]] l) x r
def membersS (last:Nat) (F:Fns) (called:Bool) (x:Tree) (l:List Tl):Rd Tree :=
 if atF [[46]] l then
  (if (hereF last l.tail).t.kind≠1∧(hereF last l.tail).t.kind≠2 then stopF last false l.tail
  else F.members called (nd 13 (hereF last l.tail).t.s [x] x.line) l.tail.tail)
 else if atF [[91]] l then (F.expr l.tail).bind fun y r=>(mustF last [93] r).bind fun _ q=>F.members called (nd 14 [] [x,y] x.line) q
 else if called&&atF [[40]] l then (argsF F l.tail).bind fun ys r=>F.members called (nd 15 [] (x::ys) x.line) r
 else .ok x l
def headS (last:Nat) (F:Fns) (l:List Tl):Rd Tree :=
 (mustF last [40] l).bind fun _ r=>(F.expr r).bind fun x r2=>(mustF last [41] r2).bind fun _ r3 => .ok x r3
def objectS (last:Nat) (F:Fns) (l:List Tl):Rd Tree :=
 (mustF last [123] l).bind fun _ r=>(F.pairs [] r).bind fun ps q => .ok (nd 11 [] ps (hereF last l).line) q
def pairsS (last:Nat) (F:Fns) (acc:List Tree) (l:List Tl):Rd (List Tree) :=
 if atF [[125]] l then .ok acc l.tail
 else if keyB (hereF last l)=false then stopF last false l
 else if (hereF last l).t.kind=1∧((hereF last l).t.s=[103,101,116]∨(hereF last l).t.s=[115,101,116])∧keyB (hereF last l.tail)=true then failF last 46 l.tail
 else (mustF last [58] l.tail).bind fun _ r=>(F.expr r).bind fun x r2 =>
  let acc':=acc++[nd 12 (if (hereF last l).t.kind=3 then Lib.itoa (hereF last l).t.n else (hereF last l).t.s) [x] (hereF last l).line]
  if atF [[44]] r2 then F.pairs acc' r2.tail else (mustF last [125] r2).bind fun _ q => .ok acc' q
def thingS (last:Nat) (F:Fns) (l:List Tl):Rd Tree :=
 let t:=hereF last l
 if t.t.kind=1 then (if forbF t.t.s then failF last 43 l else .ok (nd 1 t.t.s [] t.line) l.tail)
 else if t.t.kind=3 then .ok (.node 2 (bytesA []) t.t.n [] t.line) l.tail
 else if t.t.kind=4 then .ok (nd 3 t.t.s [] t.line) l.tail
 else if atF [[40]] l then headS last F l
 else if atF [[123]] l then objectS last F l
 else if atF [[102,117,110,99,116,105,111,110]] l then
  (if (hereF last l.tail).t.kind=1 then (F.rest l.tail.tail).bind fun ps r => .ok (nd 10 (hereF last l.tail).t.s ps t.line) r
  else (F.rest l.tail).bind fun ps r => .ok (nd 10 [] ps t.line) r)
 else if t.t.kind=2∧0<plainF t.t.s then .ok (nd (plainF t.t.s) [] [] t.line) l.tail
 else stopF last true l
def namesF (F:Fns) (l:List Tl):Rd (List Tree):=if atF [[41]] l then .ok [] l.tail else F.names [] l
def namesS (last:Nat) (F:Fns) (acc:List Tree) (l:List Tl):Rd (List Tree) :=
 (nameF last l).bind fun s r =>
  let acc':=acc++[nd 1 s [] (hereF last l).line]
  if atF [[44]] r then F.names acc' r.tail else (mustF last [41] r).bind fun _ q => .ok acc' q
def restS (last:Nat) (F:Fns) (l:List Tl):Rd (List Tree) :=
 (mustF last [40] l).bind fun _ r=>(namesF F r).bind fun ps r2=>(F.block r2).bind fun b q => .ok (ps++[b]) q
def blockS (last:Nat) (F:Fns) (l:List Tl):Rd Tree :=
 (mustF last [123] l).bind fun _ r=>(F.stmts [] r).bind fun ps r2=>(mustF last [125] r2).bind fun _ q => .ok (nd 32 [] ps (hereF last l).line) q
def stmtsS (last:Nat) (F:Fns) (acc:List Tree) (l:List Tl):Rd (List Tree) :=
 if (hereF last l).t.kind=0 then .ok acc l
 else if atF [[125]] l then .ok acc l
 else if atF [[59]] l then F.stmts acc l.tail
 else (F.stmt l).bind fun x r=>F.stmts (acc++[x]) r
def withinS (last:Nat) (F:Fns) (l:List Tl):Rd Tree :=
 if atF [[123]] l then F.block l
 else if atF [[59]] l then .ok (nd 32 [] [] (hereF last l).line) l.tail
 else (F.stmt l).bind fun x r => .ok (nd 32 [] [x] (hereF last l).line) r
def wordsL:List (List UInt8):=[[118,97,114],[105,102],[119,104,105,108,101],[102,111,114],[114,101,116,117,114,110],[116,104,114,111,119],[116,114,121],[98,114,101,97,107],[99,111,110,116,105,110,117,101],[102,117,110,99,116,105,111,110]]
def wordS (last:Nat) (F:Fns) (s:List UInt8) (line:Int) (l:List Tl):Rd Tree :=
 if s=[118,97,114] then
  (nameF last l).bind fun x r=>if atF [[61]] r then (F.expr r.tail).bind fun y r2=>(endF last r2).bind fun _ q => .ok (nd 30 x [y] line) q else (endF last r).bind fun _ q => .ok (nd 30 x [] line) q
 else if s=[105,102] then
  (headS last F l).bind fun x r=>(F.within r).bind fun y r2=>if atF [[101,108,115,101]] r2 then (F.within r2.tail).bind fun z q => .ok (nd 33 [] [x,y,z] line) q else .ok (nd 33 [] [x,y] line) r2
 else if s=[119,104,105,108,101] then (headS last F l).bind fun x r=>(F.within r).bind fun y q => .ok (nd 34 [] [x,y] line) q
 else if s=[102,111,114] then
  (mustF last [40] l).bind fun _ r =>
   if atF [[118,97,114]] r then
    (nameF last r.tail).bind fun x r2=>(mustF last [105,110] r2).bind fun _ r3=>(F.expr r3).bind fun y r4=>(mustF last [41] r4).bind fun _ r5=>(F.within r5).bind fun z q => .ok (nd 35 x [y,z] line) q
   else if (hereF last r).t.kind=0 then stopF last false r
   else failF last 47 r
 else if s=[114,101,116,117,114,110] then
  (if (hereF last l).t.kind≠0∧(hereF last l).nl=false∧atF [[59],[125]] l=false then (F.expr l).bind fun x r=>(endF last r).bind fun _ q => .ok (nd 36 [] [x] line) q
  else (endF last l).bind fun _ q => .ok (nd 36 [] [] line) q)
 else if s=[116,104,114,111,119] then
  (if (hereF last l).nl then stopF last false l else (F.expr l).bind fun x r=>(endF last r).bind fun _ q => .ok (nd 37 [] [x] line) q)
 else if s=[116,114,121] then
  (F.block l).bind fun x r=>(mustF last [99,97,116,99,104] r).bind fun _ r2=>(mustF last [40] r2).bind fun _ r3=>(nameF last r3).bind fun y r4=>(mustF last [41] r4).bind fun _ r5=>(F.block r5).bind fun z q => .ok (nd 38 y [x,z] line) q
 else if s=[98,114,101,97,107] then (endF last l).bind fun _ q => .ok (nd 39 [] [] line) q
 else if s=[99,111,110,116,105,110,117,101] then (endF last l).bind fun _ q => .ok (nd 40 [] [] line) q
 else (nameF last l).bind fun x r=>(F.rest r).bind fun ps q => .ok (nd 41 x ps line) q
def stmtS (last:Nat) (F:Fns) (l:List Tl):Rd Tree :=
 if atF [[123]] l then F.block l
 else if (hereF last l).t.kind=2∧wordsL.contains (hereF last l).t.s=true then F.word (hereF last l).t.s (hereF last l).line l.tail
 else if (hereF last l).t.kind=1∧forbF (hereF last l).t.s=false∧(hereF 0 l.tail).t.kind=5∧(hereF 0 l.tail).t.s=[58] then failF last 45 l.tail
 else (F.expr l).bind fun x r=>(endF last r).bind fun _ q => .ok (nd 31 [] [x] (hereF last l).line) q
def noFns:Fns:=⟨fun _=>none,fun _=>none,fun _ _=>none,fun _ _ _ _=>none,fun _=>none,fun _=>none,fun _ _ _=>none,fun _=>none,fun _ _=>none,fun _ _=>none,fun _ _=>none,fun _=>none,fun _=>none,fun _ _=>none,fun _=>none,fun _=>none,fun _ _ _=>none⟩
def stepFns (last:Nat) (F:Fns):Fns where
 expr:=exprS F
 cond:=condS last F
 level:=levelS F
 more:=moreS last F
 signed:=signedS last F
 chain:=chainS last F
 members:=membersS last F
 thing:=thingS last F
 args:=argsS last F
 pairs:=pairsS last F
 names:=namesS last F
 rest:=restS last F
 block:=blockS last F
 stmts:=stmtsS last F
 within:=withinS last F
 stmt:=stmtS last F
 word:=wordS last F
def fns (last:Nat):Nat→Fns
 | 0=>noFns
 | f+1=>stepFns last (fns last f)
def lastF (l:List Tl):Nat:=(l.getLast?.map Tl.line).getD 0
def allRead {α : Type} (last:Nat) (thing:Bool) (x:Rd α):Rd α := x.bind fun a r=>if (hereF last r).t.kind≠0 then stopF last thing r else .ok a r
def progF (f:Nat) (l:List Tl):Rd Tree:=allRead (lastF l) true (((fns (lastF l) f).stmts [] l).bind fun ps r => .ok (nd 32 [] ps (hereF (lastF l) l).line) r)
def soleF (f:Nat) (l:List Tl):Rd Tree:=allRead (lastF l) false ((fns (lastF l) f).expr l)
end
end Go.Proofs.YtjjdmiaonkailaaGreatDoor
