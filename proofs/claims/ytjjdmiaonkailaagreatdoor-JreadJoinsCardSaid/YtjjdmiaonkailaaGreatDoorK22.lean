/- Walks and plain laws, packed: RdS. -/
import Derived.Test.YtjjdmiaonkailaaGreatDoorK21
namespace Go.Proofs.YtjjdmiaonkailaaGreatDoor
section
open Go.RowKit Go.Sort
section
variable {P:Program} {md:Region.Mode} {ops:Array Oper} {Q:Exit→Act→World→Prop}
def opS (P:Program) (ops:Array Oper) (Q:Exit→Act→World→Prop) (i:Nat) (K:Act→World→Prop) (a:Act) (w:World):Prop :=
 match ops[i]? with
 | none=>K a w
 | some o=>if Region.wanted o (yielded ops a.tmps)=true then Oper.wp P o a w K Q else K (a.put o.dst undef) w
def anyS (P:Program) (md:Region.Mode) (ops:Array Oper) (Q:Exit→Act→World→Prop):Nat→Array Bool→Act→World→Prop
 | 0,listed,a,w=>Region.ready md ops listed=[]∧Q .normal a w
 | fuel+1,listed,a,w =>
  (Region.ready md ops listed=[]→Q .normal a w) ∧ ∀ i ∈ Region.ready md ops listed,opS P ops Q i (anyS P md ops Q fuel (listed.setIfInBounds i true)) a w
theorem oper_round {l n:Nat} {o:Oper} {a:Act} {w:World} {K K':Act→World→Prop} (hd : ∀ c,o.op≠Op.defer c) (h : ∀ a w,K a w→K' a w) (hh:o.wp P a w K Q):o.wpIn (Fence.wide.inRound l) n P a w K' Q:=by
 unfold Oper.wp at hh
 unfold Oper.wpIn
 refine ⟨fun _ _=>trivial,?_⟩
 rw [Oper.semAt_eq _ _ _ hd]
 generalize (execOp a.eval o).run P w=r at *
 cases r with
 | ok x w' =>
  cases x <;> simp only [Oper.upon,Oper.uponIn] at hh ⊢ <;>
   first
    | exact h _ _ hh
    | exact ⟨fun h0=>(by cases h0),(callsIn_wide.2 (Calls.mono hh (fun e w'' he=>by cases e <;> first | exact h _ _ he | exact he))).inRound l⟩
    | exact ⟨fun h0=>(by cases h0),fun c cs _=>let ⟨v,w2,r,s⟩:=hh c cs;⟨v,w2,h _ _ r,stepsIn_wide.2 s⟩⟩
    | exact hh.elim
 | halt x w'=>cases x <;> simp only [Oper.upon,Oper.uponIn] at hh ⊢ <;> exact hh
theorem anyS_in {l n:Nat} (hd : ∀ (i:Nat) (o:Oper),ops[i]? = some o → ∀ c,o.op≠Op.defer c) : ∀ (fuel:Nat) (listed:Array Bool) (a:Act) (w:World),anyS P md ops Q fuel listed a w→wpAnyIn (Fence.wide.inRound l) n P md ops Q fuel listed a w:=by
 intro fuel
 induction fuel with
 | zero=>intro listed a w h;exact h
 | succ fuel ih =>
  intro listed a w h
  refine ⟨h.1,fun i hi => ?_⟩
  have h2:=h.2 i hi
  unfold opS at h2
  unfold wpOpIn
  split
  ·rename_i hn
   rw [hn] at h2
   exact ih _ _ _ h2
  ·rename_i o ho
   rw [ho] at h2
   simp only at h2
   split
   ·rename_i hw
    rw [if_pos hw] at h2
    exact oper_round (hd i o ho) (fun a w hk=>ih _ _ _ hk) h2
   ·rename_i hw
    rw [if_neg hw] at h2
    exact ⟨fun _ _=>trivial,ih _ _ _ h2⟩
theorem region_round {l n id:Nat} {a:Act} {w:World} (hm:P.follows .mixedOrders=true) (hd : ∀ (i:Nat) (o:Oper),ops[i]? = some o → ∀ c,o.op≠Op.defer c) (h:anyS P .any ops Q ops.size (Array.replicate ops.size false) a w.drew):(Code.region id ops true).wpIn (Fence.wide.inRound l) n P Q a w :=
 wpIn_region_any hm (anyS_in hd _ _ _ _ h)
def allS (P:Program) (md:Region.Mode) (ops:Array Oper) (Q:Exit→Act→World→Prop) (fuel:Nat) (listed:Array Bool) (a:Act) (w:World) (rs:List Nat):Prop :=
 ∀ i ∈ rs,opS P ops Q i (anyS P md ops Q fuel (listed.setIfInBounds i true)) a w
variable {fuel:Nat} {listed:Array Bool} {a:Act} {w:World}
theorem allS_nil:allS P md ops Q fuel listed a w []:=fun _ h=>by cases h
theorem allS_cons {i:Nat} {o:Oper} {rs:List Nat} (ho:ops[i]? = some o) (h:if Region.wanted o (yielded ops a.tmps)=true then Oper.wp P o a w (anyS P md ops Q fuel (listed.setIfInBounds i true)) Q else (anyS P md ops Q fuel (listed.setIfInBounds i true)) (a.put o.dst undef) w)
  (hs:allS P md ops Q fuel listed a w rs):allS P md ops Q fuel listed a w (i::rs):=fun j hj=>by
 rcases List.mem_cons.1 hj with rfl | hj
 ·unfold opS
  rw [ho]
  exact h
 ·exact hs j hj
theorem allS_consK {i:Nat} {o:Oper} {rs:List Nat} (ho:ops[i]? = some o) (h : ∀ K':Act→World→Prop,(∀ a w,anyS P md ops Q fuel (listed.setIfInBounds i true) a w→K' a w)→if Region.wanted o (yielded ops a.tmps)=true then Oper.wp P o a w K' Q else K' (a.put o.dst undef) w)
  (hs:allS P md ops Q fuel listed a w rs):allS P md ops Q fuel listed a w (i::rs):=allS_cons ho (h _ fun _ _ h=>h) hs
theorem anyS_go {rs:List Nat} (hr:Region.ready md ops listed=rs) (hne:rs≠[]) (h:allS P md ops Q fuel listed a w rs):anyS P md ops Q (fuel+1) listed a w:=by
 subst hr
 exact ⟨fun h0=>absurd h0 hne,h⟩
theorem anyS_done (hr:Region.ready md ops listed=[]) (h:Q .normal a w) : ∀ fuel,anyS P md ops Q fuel listed a w
 | 0=>⟨hr,h⟩
 | _+1=>⟨fun _=>h,by rw [hr];intro i hi;cases hi⟩
theorem anyS_cast {listed':Array Bool} (h:listed=listed') (k:anyS P md ops Q fuel listed' a w):anyS P md ops Q fuel listed a w:=h ▸ k
theorem region_round2 {l n id f5:Nat} (hm:P.follows .mixedOrders=true) (hd : ∀ (i:Nat) (o:Oper),ops[i]? = some o → ∀ c,o.op≠Op.defer c) (L5:Array Bool) (M:Act→World→Prop) (h2 : ∀ a w,M a w→anyS P .any ops Q f5 L5 a w)
  (h1:(∀ a w,M a w→anyS P .any ops Q f5 L5 a w)→anyS P .any ops Q ops.size (Array.replicate ops.size false) a w.drew):(Code.region id ops true).wpIn (Fence.wide.inRound l) n P Q a w:=region_round hm hd (h1 h2)
end
end
end Go.Proofs.YtjjdmiaonkailaaGreatDoor
