/- Walks and plain laws, packed: RdXe. -/
import Derived.Test.YtjjdmiaonkailaaGreatDoorK24
import Derived.Test.YtjjdmiaonkailaaGreatDoorK19
import Derived.Deep.RegionHeld3
import Derived.Deep.RegionWith
import Derived.Deep.AppendLies
import Derived.BigRegion
import Derived.Deep.RegionLaw
namespace Go.Proofs.YtjjdmiaonkailaaGreatDoor
section
open Go.RowKit Go.Sort
@[reducible] def restC:Nat→Code→Code
 | 0,c=>c
 | n+1,.seq _ b=>restC n b
 | _+1,c=>c
@[reducible] def hdC:Code→Code
 | .seq a _=>a
 | c=>c
def bodyC (fn:Func):Code:=fn.body.getD .skip
set_option maxRecDepth 100000 in
set_option maxHeartbeats 8000000 in
theorem chain_end (rb b G:Nat) (hbG:b≠G) (c:Bool) (op:Int) (s:ByteArray) (n:Int) (A:Option Addr) (m cc:Nat) (ln:Int) (W:World) (hx:Blk W G 29 #[.int .i64 op,.string s,.int .i64 n,.slice A m cc,.int .i64 ln]) (hk:Blk W b 29 zeroN) (Q:Exit→Act→World→Prop) (K:Act→World→Prop)
  (hK : ∀ a1:Act,a1.defers=[]→a1.tmps.getD 2 undef = .pointer (some ⟨b,0,none⟩)→a1.tmps.getD 3 undef = .bool (!c&&(op==1||op==13||op==14))→K a1 (sets5 W.drew b (.int .i64 op) (.string s) (.int .i64 n) (.slice A m cc) (.int .i64 ln))) (a:Act) (ha:a={ tmps:=#[rdP rb,(fun i=>a.tmps.getD i undef) 1,.pointer (some ⟨b,0,none⟩),.bool false,(fun i=>a.tmps.getD i undef) 4,.bool c,.pointer (some ⟨G,0,none⟩),(fun i=>a.tmps.getD i undef) 7,(fun i=>a.tmps.getD i undef) 8,(fun i=>a.tmps.getD i undef) 9,(fun i=>a.tmps.getD i undef) 10,(fun i=>a.tmps.getD i undef) 11,(fun i=>a.tmps.getD i undef) 12,(fun i=>a.tmps.getD i undef) 13,(fun i=>a.tmps.getD i undef) 14,(fun i=>a.tmps.getD i undef) 15,(fun i=>a.tmps.getD i undef) 16,(fun i=>a.tmps.getD i undef) 17,(fun i=>a.tmps.getD i undef) 18,(fun i=>a.tmps.getD i undef) 19,(fun i=>a.tmps.getD i undef) 20,(fun i=>a.tmps.getD i undef) 21,(fun i=>a.tmps.getD i undef) 22,(fun i=>a.tmps.getD i undef) 23,(fun i=>a.tmps.getD i undef) 24,(fun i=>a.tmps.getD i undef) 25,(fun i=>a.tmps.getD i undef) 26,(fun i=>a.tmps.getD i undef) 27,(fun i=>a.tmps.getD i undef) 28,(fun i=>a.tmps.getD i undef) 29,(fun i=>a.tmps.getD i undef) 30,(fun i=>a.tmps.getD i undef) 31,(fun i=>a.tmps.getD i undef) 32,(fun i=>a.tmps.getD i undef) 33,(fun i=>a.tmps.getD i undef) 34,(fun i=>a.tmps.getD i undef) 35,(fun i=>a.tmps.getD i undef) 36,(fun i=>a.tmps.getD i undef) 37,(fun i=>a.tmps.getD i undef) 38,(fun i=>a.tmps.getD i undef) 39,(fun i=>a.tmps.getD i undef) 40,(fun i=>a.tmps.getD i undef) 41,(fun i=>a.tmps.getD i undef) 42,(fun i=>a.tmps.getD i undef) 43,(fun i=>a.tmps.getD i undef) 44,(fun i=>a.tmps.getD i undef) 45,(fun i=>a.tmps.getD i undef) 46,(fun i=>a.tmps.getD i undef) 47,(fun i=>a.tmps.getD i undef) 48,(fun i=>a.tmps.getD i undef) 49,(fun i=>a.tmps.getD i undef) 50,(fun i=>a.tmps.getD i undef) 51,(fun i=>a.tmps.getD i undef) 52,(fun i=>a.tmps.getD i undef) 53,(fun i=>a.tmps.getD i undef) 54,(fun i=>a.tmps.getD i undef) 55,(fun i=>a.tmps.getD i undef) 56,(fun i=>a.tmps.getD i undef) 57,(fun i=>a.tmps.getD i undef) 58,(fun i=>a.tmps.getD i undef) 59,(fun i=>a.tmps.getD i undef) 60,(fun i=>a.tmps.getD i undef) 61,(fun i=>a.tmps.getD i undef) 62,(fun i=>a.tmps.getD i undef) 63,(fun i=>a.tmps.getD i undef) 64,(fun i=>a.tmps.getD i undef) 65,(fun i=>a.tmps.getD i undef) 66,(fun i=>a.tmps.getD i undef) 67,(fun i=>a.tmps.getD i undef) 68,(fun i=>a.tmps.getD i undef) 69,(fun i=>a.tmps.getD i undef) 70,(fun i=>a.tmps.getD i undef) 71,(fun i=>a.tmps.getD i undef) 72,(fun i=>a.tmps.getD i undef) 73,(fun i=>a.tmps.getD i undef) 74,(fun i=>a.tmps.getD i undef) 75,(fun i=>a.tmps.getD i undef) 76],defers:=[] }) :
  (hdC (restC 8 (bodyC Tryz.f148))).wp Tryz.prog (Exit.then K Q) a W:=by
 rw [ha]
 generalize (fun i=>a.tmps.getD i undef)=f
 clear ha
 obtain ⟨⟨a0,a1,a2,a3,a4⟩,-⟩:=hx.five
 obtain ⟨⟨b0,b1,b2,b3,b4⟩,g0,g1,g2,g3,g4⟩:=hk.five
 have HK:=Lib.hid hk
 have HR:=Lib.hid hK
 have hzb:=hk.lt
 have hzG:=hx.lt
 clear hx hk hK
 simp only [hdC,restC,bodyC,Tryz.f148,Option.getD_some]
 cases c with
 | true =>
  have HR2:Hid (∀ a1:Act,a1.defers=[]→a1.tmps.getD 2 undef = .pointer (some ⟨b,0,none⟩)→a1.tmps.getD 3 undef = .bool false→K a1 (sets5 W.drew b (.int .i64 op) (.string s) (.int .i64 n) (.slice A m cc) (.int .i64 ln))):=Lib.hid (by have h:=HR.out;simpa [Bool.not_true,Bool.false_and] using h)
  clear HR
  go_wp2_with fail
  go_region
  all_goals exact HR2.out _ rfl rfl rfl
 | false =>
  cases k1:(op==1) with
  | true =>
   have HR2:Hid (∀ a1:Act,a1.defers=[]→a1.tmps.getD 2 undef = .pointer (some ⟨b,0,none⟩)→a1.tmps.getD 3 undef = .bool true→K a1 (sets5 W.drew b (.int .i64 op) (.string s) (.int .i64 n) (.slice A m cc) (.int .i64 ln))):=Lib.hid (by have h:=HR.out;simpa [k1] using h)
   clear HR
   go_wp2_with fail
   go_region
   all_goals exact HR2.out _ rfl rfl rfl
  | false =>
   cases k2:(op==13) with
   | true =>
    have HR2:Hid (∀ a1:Act,a1.defers=[]→a1.tmps.getD 2 undef = .pointer (some ⟨b,0,none⟩)→a1.tmps.getD 3 undef = .bool true→K a1 (sets5 W.drew b (.int .i64 op) (.string s) (.int .i64 n) (.slice A m cc) (.int .i64 ln))):=Lib.hid (by have h:=HR.out;simpa [k1,k2] using h)
    clear HR
    go_wp2_with fail
    go_region
    all_goals exact HR2.out _ rfl rfl rfl
   | false =>
    cases k3:(op==14) with
    | true =>
     have HR2:Hid (∀ a1:Act,a1.defers=[]→a1.tmps.getD 2 undef = .pointer (some ⟨b,0,none⟩)→a1.tmps.getD 3 undef = .bool true→K a1 (sets5 W.drew b (.int .i64 op) (.string s) (.int .i64 n) (.slice A m cc) (.int .i64 ln))):=Lib.hid (by have h:=HR.out;simpa [k1,k2,k3] using h)
     clear HR
     go_wp2_with fail
     go_region
     all_goals exact HR2.out _ rfl rfl rfl
    | false =>
     have HR2:Hid (∀ a1:Act,a1.defers=[]→a1.tmps.getD 2 undef = .pointer (some ⟨b,0,none⟩)→a1.tmps.getD 3 undef = .bool false→K a1 (sets5 W.drew b (.int .i64 op) (.string s) (.int .i64 n) (.slice A m cc) (.int .i64 ln))):=Lib.hid (by have h:=HR.out;simpa [k1,k2,k3] using h)
     clear HR
     go_wp2_with fail
     go_region
     all_goals exact HR2.out _ rfl rfl rfl
end
end Go.Proofs.YtjjdmiaonkailaaGreatDoor
