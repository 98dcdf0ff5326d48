/- Walks and plain laws, packed: RdSt, RdAll, Parse0. -/
import Derived.Test.YtjjdmiaonkailaaGreatDoorK38
import Derived.Test.YtjjdmiaonkailaaGreatDoorK25
import Derived.Test.YtjjdmiaonkailaaGreatDoorK33
import Derived.Test.YtjjdmiaonkailaaGreatDoorK34
import Derived.Test.YtjjdmiaonkailaaGreatDoorK39
import Derived.Test.YtjjdmiaonkailaaGreatDoorK40
import Derived.Test.YtjjdmiaonkailaaGreatDoorK41
import Derived.Test.YtjjdmiaonkailaaGreatDoorK42
import Derived.Test.YtjjdmiaonkailaaGreatDoorK43
import Derived.Deep.RegionHeld3
import Derived.Deep.RegionWith
import Derived.Deep.AppendLies
import Derived.Deep.CutRange
import Derived.WalkMore
import Derived.Deep.RegionLaw
import Derived.Test.YtjjdmiaonkailaaGreatDoorK29
import Derived.Test.YtjjdmiaonkailaaGreatDoorK30
import Derived.Test.YtjjdmiaonkailaaGreatDoorK35
import Derived.Test.YtjjdmiaonkailaaGreatDoorK37
import Derived.Test.YtjjdmiaonkailaaGreatDoorK28
import Derived.Test.YtjjdmiaonkailaaGreatDoorK16
namespace Go.Proofs.YtjjdmiaonkailaaGreatDoor
section
open Go.RowKit Go.Sort
theorem words_all {rb last f:Nat} (R:AllR rb last f) (s:List UInt8) (fid:FuncId) (h:wordFn s=some fid):WordC rb last f s fid ∧ ∀ args w,(callFunc fid args).run Tryz.prog w = .ok (.enter fid args) w:=by
 unfold wordFn at h
 split at h
 ·rename_i e
  subst e
  injection h with h
  subst h
  exact ⟨variable_word R,enters_of Tryz.func131 (by kernel_rfl) rfl⟩
 split at h
 ·rename_i e
  subst e
  injection h with h
  subst h
  exact ⟨choice_word R,enters_of Tryz.func132 (by kernel_rfl) rfl⟩
 split at h
 ·rename_i e
  subst e
  injection h with h
  subst h
  exact ⟨loop_word R,enters_of Tryz.func133 (by kernel_rfl) rfl⟩
 split at h
 ·rename_i e
  subst e
  injection h with h
  subst h
  exact ⟨each_word R,enters_of Tryz.func134 (by kernel_rfl) rfl⟩
 split at h
 ·rename_i e
  subst e
  injection h with h
  subst h
  exact ⟨back_word R,enters_of Tryz.func135 (by kernel_rfl) rfl⟩
 split at h
 ·rename_i e
  subst e
  injection h with h
  subst h
  exact ⟨throw_word R,enters_of Tryz.func136 (by kernel_rfl) rfl⟩
 split at h
 ·rename_i e
  subst e
  injection h with h
  subst h
  exact ⟨try_word R,enters_of Tryz.func137 (by kernel_rfl) rfl⟩
 split at h
 ·rename_i e
  subst e
  injection h with h
  subst h
  exact ⟨leave_word R,enters_of Tryz.func138 (by kernel_rfl) rfl⟩
 split at h
 ·rename_i e
  subst e
  injection h with h
  subst h
  exact ⟨next_word R,enters_of Tryz.func139 (by kernel_rfl) rfl⟩
 split at h
 ·rename_i e
  subst e
  injection h with h
  subst h
  exact ⟨function_word R,enters_of Tryz.func140 (by kernel_rfl) rfl⟩
 cases h
theorem neq_nil (w:World):Sem.run Tryz.prog (binOp .neq 137 .nilFunc .nilFunc) w = .ok (.bool false) w:=by kernel_rfl
theorem neq_fun (fid:FuncId) (a b:Array Value) (w:World):Sem.run Tryz.prog (binOp .neq 137 (.func (.func fid) a b) .nilFunc) w = .ok (.bool true) w:=by kernel_rfl
theorem zero_wfn (w:World):(zeroValue 137).run Tryz.prog w = .ok .nilFunc w:=by kernel_rfl
theorem Turn2.fresh {rb nb:Nat} {a b c:World} (h:TurnR rb a b) (k:Turn2 rb nb b c) (hn:a.heap.size≤nb):TurnR rb a c:=Turn.trans h k (fun i hi e=>by rcases e with e | e;exact e;omega)
set_option maxRecDepth 100000 in
set_option maxHeartbeats 8000000 in
theorem stmt_step {rb last f:Nat} (R:AllR rb last f) (w:World) (l:List Tl) (y:Except (Int × Int) (Tree × List Tl)) (h:St w rb last l) (hy:stmtS last (fns last f) l=some y) :
  Calls Tryz.prog 65 #[rdP rb] w (PostS rb last w (NodeV w.heap.size) y):=by
 have f0:=field_tok0
 have f1:=field_tok1
 have f3:=field_tok3
 have hlt:=h.lt
 have HS0:=Lib.hid (h.alloc (.cells zeroN 29))
 have hk0:=Blk.new w 29 zeroN
 have HT0:=Lib.hid (alloc_turn w rb (.cells zeroN 29))
 have hz0:w.heap.size+1≤(w.alloc (.cells zeroN 29)).heap.size:=by simp
 unfold stmtS at hy
 clear h
 go_enter Tryz.func65,Tryz.ntmps65
 go_wp2_with fail
 refine (here_calls _ rb last _ HS0.out).mono ?_
 rintro e w2 ⟨rfl,hb⟩
 unfold tokV
 have ht:=turn_below (rb:=rb) hb
 have hs:=HS0.out.below hb
 clear hb
 have HS1:=Lib.hid hs
 have HT1:=Lib.hid (TurnR.trans HT0.out ht)
 have hk1:=hk0.tr ht (by omega)
 have hlhk1:=hk1.lt
 clear ht hs hk0
 have HS2:=Lib.hid (HS1.out.alloc (.cells #[.int .i64 (hereF last l).t.kind,.string ⟨(hereF last l).t.s.toArray⟩,.int .i64 (hereF last l).t.n,.int .i64 (hereF last l).line,.bool (hereF last l).nl] 37))
 have HT2:=Lib.hid (TurnR.al HT1.out (.cells #[.int .i64 (hereF last l).t.kind,.string ⟨(hereF last l).t.s.toArray⟩,.int .i64 (hereF last l).t.n,.int .i64 (hereF last l).line,.bool (hereF last l).nl] 37))
 have hk2:=hk1.alloc (.cells #[.int .i64 (hereF last l).t.kind,.string ⟨(hereF last l).t.s.toArray⟩,.int .i64 (hereF last l).t.n,.int .i64 (hereF last l).line,.bool (hereF last l).nl] 37)
 have hb2:=Blk.new w2 37 #[.int .i64 (hereF last l).t.kind,.string ⟨(hereF last l).t.s.toArray⟩,.int .i64 (hereF last l).t.n,.int .i64 (hereF last l).line,.bool (hereF last l).nl]
 clear hk1
 have hlhb2:=hb2.lt
 have HS3:=Lib.hid (HS2.out.alloc (.cells #[.int .i64 0,.string ⟨#[]⟩,.int .i64 0,.slice none 0 0,.int .i64 (hereF last l).line] 29))
 have HT3:=Lib.hid (TurnR.al HT2.out (.cells #[.int .i64 0,.string ⟨#[]⟩,.int .i64 0,.slice none 0 0,.int .i64 (hereF last l).line] 29))
 have hk3:=hk2.alloc (.cells #[.int .i64 0,.string ⟨#[]⟩,.int .i64 0,.slice none 0 0,.int .i64 (hereF last l).line] 29)
 have hb3:=hb2.alloc (.cells #[.int .i64 0,.string ⟨#[]⟩,.int .i64 0,.slice none 0 0,.int .i64 (hereF last l).line] 29)
 clear hk2 hb2
 have hn3:Blk ((w2.alloc (.cells #[.int .i64 (hereF last l).t.kind,.string ⟨(hereF last l).t.s.toArray⟩,.int .i64 (hereF last l).t.n,.int .i64 (hereF last l).line,.bool (hereF last l).nl] 37)).alloc (.cells #[.int .i64 0,.string ⟨#[]⟩,.int .i64 0,.slice none 0 0,.int .i64 (hereF last l).line] 29)) (w2.heap.size+1) 29 #[.int .i64 0,.string ⟨#[]⟩,.int .i64 0,.slice none 0 0,.int .i64 (hereF last l).line]:=by have:=Blk.new (w2.alloc (.cells #[.int .i64 (hereF last l).t.kind,.string ⟨(hereF last l).t.s.toArray⟩,.int .i64 (hereF last l).t.n,.int .i64 (hereF last l).line,.bool (hereF last l).nl] 37)) 29 #[.int .i64 0,.string ⟨#[]⟩,.int .i64 0,.slice none 0 0,.int .i64 (hereF last l).line];rw [World.size_alloc] at this;exact this
 obtain ⟨ob,hob⟩ : ∃ b,atF [[123]] l=b:=⟨_,rfl⟩
 go_wp2_with fail
 refine (isAt1 HS3.out ⟨#[123]⟩ _ ?hx1 _ hob).mono ?_
 case hx1=>simp
 rintro e w3 ⟨rfl,hb⟩
 have ht:=turn_below (rb:=rb) hb
 have hs:=HS3.out.below hb
 clear hb
 have HS4:=Lib.hid hs
 have HT4:=Lib.hid (TurnR.trans HT3.out ht)
 have hk4:=hk3.tr ht (by omega)
 have hb4:=hb3.tr ht (by omega)
 have hn4:=hn3.tr ht (by omega)
 have hlhk4:=hk4.lt
 have hlhb4:=hb4.lt
 have hlhn4:=hn4.lt
 clear ht hs hk3 hb3 hn3
 rw [hob] at hy
 cases ob with
 | true =>
  replace hy:(fns last f).block l=some y:=hy
  clear hb4
  clear hn4
  match y,hy with
  | .error (c,ln),hy =>
   have HM:=Lib.hid hy
   clear hy
   go_wp2_with fail
   refine (R.block _ _ _ HS4.out HM.out).mono ?_
   rintro e w4 ⟨rfl,ht⟩
   exact ⟨rfl,PostS.err rfl (TurnR.trans HT4.out ht)⟩
  | .ok (x,r),hy =>
   have HM:=Lib.hid hy
   clear hy
   go_wp2_with fail
   refine (R.block _ _ _ HS4.out HM.out).mono ?_
   rintro e w4 ⟨⟨_,rfl,hok,d,sl,rfl,htr⟩,hs,ht⟩
   obtain ⟨A,cx,rfl⟩:=htr.form
   have HOK:=Lib.hid hok
   have HTX:=Lib.hid (htr.weaken (B':=w.heap.size+1) (by omega))
   clear hok htr
   have HS5:=Lib.hid hs
   have HT5:=Lib.hid (TurnR.trans HT4.out ht)
   have hk5:=hk4.tr ht (by omega)
   have hlhk5:=hk5.lt
   clear ht hs hk4
   obtain ⟨⟨b0,b1,b2,b3,b4⟩,g0,g1,g2,g3,g4⟩:=hk5.five
   have HK:=Lib.hid hk5
   clear hk5
   go_wp2
   refine ret_node (HK.out.set5 _ _ _ _ _) rfl rfl rfl ?_
   obtain ⟨q1,q2,q3⟩:=fin_old hlt HS5.out HT5.out HOK.out HTX.out
   exact PostS.ok rfl q3 q1 q2
 | false =>
  rw [if_neg (by decide)] at hy
  obtain ⟨v0,hv0⟩ : ∃ v,v=(wordV rb (hereF last l).t.s).getD .nilFunc:=⟨_,rfl⟩
  have HBD:=Lib.hid hb4.dr
  have HSL:Hid ((hereF last l).t.s.length≤65536):=Lib.hid (by
   cases l with
   | nil=>exact Nat.zero_le _
   | cons t l3=>exact (HS4.out.ok (t:=t) (by simp)).s)
  obtain ⟨⟨a0,a1,a2,a3,a4⟩,-⟩:=HBD.out.five
  have HV0:=Lib.hid hv0
  clear hv0
  go_wp2_with fail
  refine wp_midN (fun f=>{ tmps:=#[rdP rb,f 1,.pointer (some ⟨w.heap.size,0,none⟩),.pointer (some ⟨w2.heap.size,0,none⟩),.pointer (some ⟨(w2.heap.size+1),0,none⟩),f 5,f 6,f 7,f 8,f 9,f 10,f 11,f 12,f 13,f 14,f 15,f 16,f 17,f 18,f 19,f 20,f 21,f 22,f 23,f 24,f 25,f 26,f 27,f 28,f 29,f 30,f 31,f 32,f 33,f 34,f 35,f 36,f 37,f 38,f 39,f 40,f 41,f 42,f 43,f 44,f 45,f 46,f 47,f 48,f 49,f 50,f 51,f 52,f 53,f 54,f 55,f 56,f 57,f 58,f 59,f 60,f 61,f 62,f 63,f 64,f 65,f 66,f 67,f 68,f 69,f 70,f 71,f 72,f 73,f 74,f 75,f 76,f 77,f 78,f 79,f 80,f 81,f 82,f 83,f 84,f 85,f 86,f 87,f 88,f 89,f 90,f 91,f 92,f 93,f 94,f 95,f 96,f 97],defers:=[] }) (fun f w9=>f 5=v0∧Below w3.heap.size w3 w9) ?h5 ?q5
  case h5 =>
   go_region_law (first
    | (go_simp;go_at_call 106;refine (rdWords_calls rb _).mono ?_;rintro e w7 ⟨n7,f7,rfl,hm7,hf7,hb7⟩;have ht7:=turn_below (rb:=rb) hb7;obtain ⟨⟨t0,t1,t2,t3,t4⟩,-⟩:=(HBD.out.tr ht7 (by omega)).five;have hlk:(Instr.lookup 138 (.map (some w3.heap.size)) (.string ⟨(hereF last l).t.s.toArray⟩) false).run Tryz.prog w7 = .ok v0 w7:=(by have h:=SMap.look hm7 Tryz.underlying9 Tryz.underlying138 (zero_wfn w7) (s:=⟨(hereF last l).t.s.toArray⟩) (by have:=HSL.out;show (hereF last l).t.s.toArray.size≤maxLen;rw [List.size_toArray];simp only [maxLen];omega);rw [hf7,show (⟨(hereF last l).t.s.toArray⟩:ByteArray).data.toList=(hereF last l).t.s from rfl,← HV0.out] at h;exact h);clear hf7 hm7))
   all_goals exact midN_normal (by kernel_rfl) ⟨rfl,(Below.refl _ _).drew.trans hb7⟩
  case q5 =>
   rintro f5 w9 ⟨hf5,hb⟩
   have ht:=turn_below (rb:=rb) hb
   have hs:=HS4.out.below hb
   clear hb HBD a0 a1 a2 a3 a4
   have HS5:=Lib.hid hs
   have HT5:=Lib.hid (TurnR.trans HT4.out ht)
   have hk5:=hk4.tr ht (by omega)
   have hb5:=hb4.tr ht (by omega)
   have hn5:=hn4.tr ht (by omega)
   have hlhk5:=hk5.lt
   have hlhb5:=hb5.lt
   have hlhn5:=hn5.lt
   clear ht hs hk4 hb4 hn4
   obtain ⟨gg,hgg⟩ : ∃ b:Bool,b=((wordFn (hereF last l).t.s).isSome&&((hereF last l).t.kind==2)):=⟨_,rfl⟩
   have HGG:=Lib.hid hgg
   have HF5:=Lib.hid hf5
   clear hgg hf5
   obtain ⟨⟨a0,a1,a2,a3,a4⟩,-⟩:=hb5.five
   go_upto_region 6 with fail
   refine wp_midN (fun f=>{ tmps:=#[rdP rb,f 1,.pointer (some ⟨w.heap.size,0,none⟩),.pointer (some ⟨w2.heap.size,0,none⟩),.pointer (some ⟨(w2.heap.size+1),0,none⟩),f 5,f 6,f 7,f 8,f 9,f 10,f 11,f 12,f 13,f 14,f 15,f 16,f 17,f 18,f 19,f 20,f 21,f 22,f 23,f 24,f 25,f 26,f 27,f 28,f 29,f 30,.bool gg,f 32,f 33,f 34,f 35,f 36,f 37,f 38,f 39,f 40,f 41,f 42,f 43,f 44,f 45,f 46,f 47,f 48,f 49,f 50,f 51,f 52,f 53,f 54,f 55,f 56,f 57,f 58,f 59,f 60,f 61,f 62,f 63,f 64,f 65,f 66,f 67,f 68,f 69,f 70,f 71,f 72,f 73,f 74,f 75,f 76,f 77,f 78,f 79,f 80,f 81,f 82,f 83,f 84,f 85,f 86,f 87,f 88,f 89,f 90,f 91,f 92,f 93,f 94,f 95,f 96,f 97],defers:=[] }) (fun f w9'=>f 5=v0∧w9'=w9) ?h6 ?q6
   case h6 =>
    cases hw:wordFn (hereF last l).t.s with
    | none =>
     have e:gg=false:=by rw [HGG.out,hw];rfl
     have e5:f5 5 = .nilFunc:=by rw [HF5.out,HV0.out,wordV,hw];rfl
     subst e
     have hnn:=neq_nil w9
     go_wp2
     exact midN_normal (by kernel_rfl) ⟨e5.symm.trans HF5.out,rfl⟩
    | some fid =>
     have e5:f5 5 = .func (.func fid) #[rdP rb] #[]:=by rw [HF5.out,HV0.out,wordV,hw];rfl
     cases hk2:((hereF last l).t.kind==2) with
     | true =>
      have e:gg=true:=by rw [HGG.out,hw,hk2];rfl
      subst e
      have hnn:=neq_fun fid #[rdP rb] #[] w9
      go_wp2
      exact midN_normal (by kernel_rfl) ⟨e5.symm.trans HF5.out,rfl⟩
     | false =>
      have e:gg=false:=by rw [HGG.out,hw,hk2];rfl
      subst e
      have hnn:=neq_fun fid #[rdP rb] #[] w9
      go_wp2
      exact midN_normal (by kernel_rfl) ⟨e5.symm.trans HF5.out,rfl⟩
   case q6 =>
    rintro f6 w9' ⟨hf6,hw9⟩
    rw [hw9]
    clear hw9 w9'
    clear HF5
    cases hgg:gg with
    | true =>
     have hg:=HGG.out
     rw [hgg] at hg
     obtain ⟨fid,hw⟩ : ∃ fid,wordFn (hereF last l).t.s=some fid:=by
      cases hw:wordFn (hereF last l).t.s with
      | none=>rw [hw] at hg;cases hg
      | some fid=>exact ⟨fid,rfl⟩
     have hk2:(hereF last l).t.kind=2:=by rw [hw] at hg;simpa using hg.symm
     rw [if_pos ⟨hk2,by rw [← wordFn_mem,hw];rfl⟩] at hy
     have HYW:=Lib.hid ((leFns last f).word _ _ _ _ hy)
     have HW:=Lib.hid (words_all R _ fid hw)
     have e5:f6 5 = .func (.func fid) #[rdP rb] #[]:=by rw [hf6,HV0.out,wordV,hw];rfl
     clear hy hg hk2 hf6
     have HF6:=Lib.hid hw
     clear hw a0 a1 a2 a3 a4
     go_wp2_with fail
     refine (skip_calls _ rb last _ HS5.out).mono ?_
     rintro e w10 ⟨rfl,hs,ht⟩
     unfold tokV
     have HS6:=Lib.hid hs
     have HT6:=Lib.hid (TurnR.trans HT5.out ht)
     have hk6:=hk5.tr ht (by omega)
     have hb6:=hb5.tr ht (by omega)
     have hn6:=hn5.tr ht (by omega)
     have hlhk6:=hk6.lt
     have hlhb6:=hb6.lt
     have hlhn6:=hn6.lt
     clear ht hs hk5 hb5 hn5
     have hen:=HW.out.2
     go_wp2_with fail
     refine (HW.out.1 w10 (w2.heap.size+1) (hereF last l).line l.tail y (by omega) hn6 HS6.out HYW.out).mono ?_
     clear hen
     intro e w11 hq
     match y,hq with
     | .error (c,ln),⟨he,ht⟩ =>
      subst he
      exact ⟨rfl,PostS.err rfl (Turn2.fresh HT6.out ht (by omega))⟩
     | .ok (t,q),⟨⟨v,he⟩,hs,ht,hok,d,A,cA,hbn,htr⟩ =>
      subst he
      have hk11:=hk6.turn ht (by omega)
      obtain ⟨⟨n0,n1,n2,n3,n4⟩,-⟩:=hbn.five
      obtain ⟨⟨b0,b1,b2,b3,b4⟩,g0,g1,g2,g3,g4⟩:=hk11.five
      have HK:=Lib.hid hk11
      have HS11:=Lib.hid hs
      have HT11:=Lib.hid (Turn2.fresh HT6.out ht (by omega))
      have HOK:=Lib.hid hok
      have HTX:=Lib.hid (htr.weaken (B':=w.heap.size+1) (by omega))
      have hzn:=hbn.lt
      clear hs ht hok htr hbn hk11 hk6 hb6 hn6
      go_wp2
      refine ret_node (HK.out.set5 _ _ _ _ _) rfl rfl rfl ?_
      obtain ⟨q1,q2,q3⟩:=fin_old hlt HS11.out HT11.out HOK.out HTX.out
      exact PostS.ok rfl q3 q1 q2
    | false =>
     have hcc:¬ ((hereF last l).t.kind=2∧wordsL.contains (hereF last l).t.s=true):=by
      rintro ⟨e1,e2⟩
      rw [← wordFn_mem] at e2
      have h:=HGG.out
      rw [hgg,e2,e1] at h
      simp at h
     rw [if_neg hcc] at hy
     clear hcc hf6 hgg HGG HV0
     obtain ⟨gl,hgl⟩ : ∃ b:Bool,b=(((hereF last l).t.kind==1)&&(!forbF (hereF last l).t.s&&(((hereF 0 l.tail).t.kind==5)&&((hereF 0 l.tail).t.s==[58])))):=⟨_,rfl⟩
     have HGL:=Lib.hid hgl
     clear hgl
     go_upto_region 10 with fail
     refine wp_midN (fun f=>{ tmps:=#[rdP rb,f 1,.pointer (some ⟨w.heap.size,0,none⟩),.pointer (some ⟨w2.heap.size,0,none⟩),.pointer (some ⟨(w2.heap.size+1),0,none⟩),f 5,f 6,f 7,f 8,f 9,f 10,f 11,f 12,f 13,f 14,f 15,f 16,f 17,f 18,f 19,f 20,f 21,f 22,f 23,f 24,f 25,f 26,f 27,f 28,f 29,f 30,f 31,f 32,f 33,f 34,f 35,f 36,f 37,f 38,f 39,f 40,f 41,f 42,f 43,f 44,f 45,f 46,f 47,f 48,f 49,f 50,f 51,f 52,f 53,f 54,f 55,f 56,f 57,f 58,f 59,f 60,f 61,f 62,f 63,f 64,f 65,f 66,f 67,f 68,f 69,f 70,f 71,f 72,f 73,f 74,f 75,f 76,f 77,.bool gl,f 79,f 80,f 81,f 82,f 83,f 84,f 85,f 86,f 87,f 88,f 89,f 90,f 91,f 92,f 93,f 94,f 95,f 96,f 97],defers:=[] }) (fun _ w9'=>w9'=w9) ?h10 ?q10
     case h10 =>
      cases hk1:((hereF last l).t.kind==1) with
      | false =>
       have e:gl=false:=by rw [HGL.out,hk1];simp
       subst e
       go_wp2
       exact midN_normal (by kernel_rfl) rfl
      | true =>
       obtain ⟨AR,cR,hrd⟩:=HS5.out
       have q0:=hrd.blk.cell 0
       have HTK:=Lib.hid hrd.toks
       clear hrd
       cases hfb:forbF (hereF last l).t.s with
       | true =>
        have e:gl=false:=by rw [HGL.out,hk1,hfb];simp
        subst e
        go_wp2_with fail
        refine (forb_calls _ _).mono ?_
        rintro e w' ⟨rfl,rfl⟩
        rw [hfb]
        go_wp2
        exact midN_normal (by kernel_rfl) rfl
       | false =>
        by_cases hl1:1<l.length
        ·have HL1:=Lib.hid hl1
         obtain ⟨t2,ht2⟩ : ∃ t2,l[1]? = some t2:=⟨_,List.getElem?_eq_getElem hl1⟩
         have hh2:(hereF 0 l.tail)=t2:=by
          match l,ht2 with
          | _::u::_,ht2=>simpa [hereF] using ht2
         obtain ⟨hl0,A2,c2,hv,htk⟩:=HTK.out
         obtain ⟨g,o,rfl,⟨hgB,hgc⟩,-,hcell⟩:=htk 1 t2 ht2
         injection hv with hv1 _ hv3
         subst hv1 hv3
         have t0:=hcell 0 (by omega)
         have t1:=hcell 1 (by omega)
         simp only [tokC,Nat.one_mul,Nat.add_zero,List.getElem?_cons_zero,List.getElem?_cons_succ] at t0 t1
         have hli:(1:Int)<(l.length:Int):=by omega
         have hlz:¬ l.length≤1:=by omega
         clear hcell htk ht2 hl0 hl1
         rw [hh2] at HGL
         have hba:=ba_list t2.t.s
         cases hk5:(t2.t.kind==5) with
         | false =>
          have e:gl=false:=by rw [HGL.out,hk1,hfb,hk5];simp
          subst e
          go_wp2_with fail
          refine (forb_calls _ _).mono ?_
          rintro e w' ⟨rfl,rfl⟩
          rw [hfb]
          go_wp2
          exact midN_normal (by kernel_rfl) rfl
         | true =>
          cases hs5:(t2.t.s==[58]) with
          | true =>
           have hgw:((⟨t2.t.s.toArray⟩:ByteArray).toList==[58])=true:=by rw [hba];exact hs5
           have e:gl=true:=by rw [HGL.out,hk1,hfb,hk5,hs5];simp
           subst e
           go_wp2_with fail
           refine (forb_calls _ _).mono ?_
           rintro e w' ⟨rfl,rfl⟩
           rw [hfb]
           go_wp2
           exact midN_normal (by kernel_rfl) rfl
          | false =>
           have hgw:((⟨t2.t.s.toArray⟩:ByteArray).toList==[58])=false:=by rw [hba];exact hs5
           have e:gl=false:=by rw [HGL.out,hk1,hfb,hk5,hs5];simp
           subst e
           go_wp2_with fail
           refine (forb_calls _ _).mono ?_
           rintro e w' ⟨rfl,rfl⟩
           rw [hfb]
           go_wp2
           exact midN_normal (by kernel_rfl) rfl
        ·have hh2:(hereF 0 l.tail)=⟨.zero,0,false⟩:=by
          match l,hl1 with
          | [],_=>rfl
          | [_],_=>rfl
          | _::_::_,h=>exact absurd h (by simp)
         have hli:¬ (1:Int)<(l.length:Int):=by omega
         have hlz:l.length≤1:=by omega
         clear hl1
         have e:gl=false:=by rw [HGL.out,hk1,hfb,hh2];simp [Tk.zero]
         subst e
         go_wp2_with fail
         refine (forb_calls _ _).mono ?_
         rintro e w' ⟨rfl,rfl⟩
         rw [hfb]
         go_wp2
         exact midN_normal (by kernel_rfl) rfl
     case q10 =>
      rintro f10 w9' hw9
      rw [hw9]
      clear hw9 w9'
      cases hgl:gl with
      | true =>
       have hcc:(hereF last l).t.kind=1∧forbF (hereF last l).t.s=false∧(hereF 0 l.tail).t.kind=5∧(hereF 0 l.tail).t.s=[58]:=by have h:=HGL.out;rw [hgl] at h;simpa using h.symm
       rw [if_pos hcc] at hy
       have HYE2:=Lib.hid (err_eq hy)
       clear hy hcc
       go_wp2_with fail
       refine (skip_calls _ rb last _ HS5.out).mono ?_
       rintro e w10 ⟨rfl,hs,ht⟩
       unfold tokV
       have HS6:=Lib.hid hs
       have HT6:=Lib.hid (TurnR.trans HT5.out ht)
       have hk6:=hk5.tr ht (by omega)
       have hb6:=hb5.tr ht (by omega)
       have hn6:=hn5.tr ht (by omega)
       have hlhk6:=hk6.lt
       have hlhb6:=hb6.lt
       have hlhn6:=hn6.lt
       clear ht hs hk5 hb5 hn5
       go_wp2_with fail
       refine (fails_calls _ rb last _ HS6.out 45).mono ?_
       rintro e w11 ⟨rfl,hb⟩
       exact ⟨rfl,PostS.err HYE2.out (TurnR.trans HT6.out (turn_below hb))⟩
      | false =>
       have hcc:¬ ((hereF last l).t.kind=1∧forbF (hereF last l).t.s=false∧(hereF 0 l.tail).t.kind=5∧(hereF 0 l.tail).t.s=[58]):=by
        rintro ⟨e1,e2,e3,e4⟩
        have h:=HGL.out
        rw [hgl,e1,e2,e3,e4] at h
        simp at h
       rw [if_neg hcc] at hy
       clear hcc HGL hgl a0 a1 a2 a3 a4
       obtain ⟨wb,hwb⟩ : ∃ z,z=w9:=⟨_,rfl⟩
       subst hwb
       obtain ⟨nb,hnb⟩ : ∃ k,k=w2.heap.size+1:=⟨_,rfl⟩
       rw [← hnb] at hn5 ⊢
       have hrb:rb<nb:=by omega
       have hnl:=hn5.lt
       have hnr:nb≠rb:=by omega
       have hwnb:w.heap.size<nb:=by omega
       have HKR:=Lib.hid hk5
       have HTR:=Lib.hid HT5.out
       have HPX:Hid (∀ (c ln:Int) (w':World),y = .error (c,ln)→Turn2 rb nb wb w'→PostS rb last w (NodeV w.heap.size) y (.panicked (pan c ln)) w'):=Lib.hid fun c ln w' h t=>PostS.err h (Turn2.fresh HTR.out t (by omega))
       have hn0:=hn5
       have HSX:=Lib.hid HS5.out
       clear hn5 hk5 hb5 hnb
       have HS0:=Lib.hid HSX.out
       have HT0:Hid (Turn2 rb nb wb wb):=Lib.hid (Turn.refl _ _)
       have hs:=HS0.out.set' (g:=nb) (j:=0) hrb (.int .i64 31)
       have ht:=Turn2.set HT0.out 0 (.int .i64 31)
       have hb:Blk (wb.setCell ⟨nb,0,none⟩ (.int .i64 31)) nb 29 #[.int .i64 31,.string ⟨#[]⟩,.int .i64 0,.slice none 0 0,.int .i64 (hereF last l).line]:=by simpa using hn0.set_ 0 (.int .i64 31)
       have hrest : ∃ vv1,vv1=wb.setCell ⟨nb,0,none⟩ (.int .i64 31):=⟨_,rfl⟩
       obtain ⟨⟨a0,a1,a2,a3,a4⟩,f0,f1,f2,f3,f4⟩:=hn0.five
       clear hrest
       go_wp2_with fail
       clear a0 a1 a2 a3 a4 f0 f1 f2 f3 f4 hn0
       have hsz1:(wb.setCell ⟨nb,0,none⟩ (.int .i64 31)).heap.size=wb.heap.size:=by simp only [World.size_setCell]
       have HH:=Lib.hid (And.intro hs (And.intro ht hb))
       clear hs ht hb
       have HH:=HH.out
       generalize wb.setCell ⟨nb,0,none⟩ (.int .i64 31)=vv1 at HH hsz1 ⊢
       have HSZ1:=Lib.hid hsz1
       clear hsz1
       obtain ⟨hs,ht,hb⟩:=HH
       have HS1:=Lib.hid hs
       have HT1:=Lib.hid ht
       have hn1:=hb
       clear hs ht hb
       have hn1d:=hn1.dr
       have hzn:nb<vv1.heap.size:=hn1.lt
       obtain ⟨⟨a0,a1,a2,a3,a4⟩,f0,f1,f2,f3,f4⟩:=hn1.five
       have HN1:=Lib.hid hn1
       clear hn1
       have HSd:=Lib.hid HS1.out.dr
       have HTd:=Lib.hid (Turn2.dr HT1.out)
       have hwz:wb.heap.size≤vv1.heap.size:=HT1.out.size
       rcases bind_some hy with ⟨⟨c,ln2⟩,h1,rfl⟩ | ⟨x1,r2,h1,h2⟩
       ·have HM:=Lib.hid h1
        clear h1 hy
        go_wp2_with fail
        go_region_law (first
         | (go_simp;go_at_call 27;refine (R.expr _ _ _ HSd.out HM.out).mono ?_;rintro e w7 ⟨rfl,ht7⟩;refine goneAny w7 ⟨rfl,HPX.out _ _ _ rfl (Turn2.r HTd.out ht7)⟩ ?_)
         | (go_simp;go_at_call 27;refine (R.expr _ _ _ (HS1.out.alloc (.cells #[.int .i64 0,.string ⟨#[]⟩,.int .i64 0,.slice none 0 0,.int .i64 0] 29)).dr HM.out).mono ?_;rintro e w7 ⟨rfl,ht7⟩;refine goneAny w7 ⟨rfl,HPX.out _ _ _ rfl (Turn2.r (Turn2.dr (Turn2.al HT1.out (.cells #[.int .i64 0,.string ⟨#[]⟩,.int .i64 0,.slice none 0 0,.int .i64 0] 29))) ht7)⟩ ?_))
        all_goals trivial
       have HM:=Lib.hid h1
       clear h1 hy
       go_wp2_with fail
       apply wp_mid5 (R:=fun A7 c7 m7 g cap w9=>AppP rb last nb wb r2 (.int .i64 31) (.string ⟨#[]⟩) (.int .i64 0) (.slice (some ⟨g,0,none⟩) 1 cap) (.int .i64 (hereF last l).line) ([]++[x1]) w9)
       case h =>
        go_region_law (first
         | (refine step_append_row (v := .slice none 0 0) (acc:=[]) (B:=wb.heap.size) (by rfl) _ _ (by rfl) (by rfl) (RowT.nil) zeroL ⟨w7.heap.size,0,none⟩ 1 1 (by rfl) (by rfl) (zero_news (by exact (Blk.new w7 29 #[.int .i64 0,.string ⟨#[]⟩,.int .i64 0,.slice none 0 0,.int .i64 0]))) zero_ok (by decide) (by simp) (by first | omega | (simp;omega)) ?_;intro g cap w8 hrow8 hgrow8 hat8 hlt8;have hrow8:RowT wb.heap.size w8 ([]++[zeroT]) (.slice (some ⟨g,0,none⟩) 1 cap):=hrow8;have hn8:=(hn7.alloc (.cells #[.int .i64 0,.string ⟨#[]⟩,.int .i64 0,.slice none 0 0,.int .i64 0] 29)).grown hgrow8 (by simp [Value.ownBlock]);have hgn:g≠nb:=(by rcases hat8 with h | h;(exact absurd h (by simp [Value.ownBlock]));(first | omega | (simp at h;omega)));have hng:nb≠g:=Ne.symm hgn;have hgw:wb.heap.size≤g:=(by rcases hat8 with h | h;(exact absurd h (by simp [Value.ownBlock]));(first | omega | (simp at h;omega)));have hs8:=(HS7.out.alloc (.cells #[.int .i64 0,.string ⟨#[]⟩,.int .i64 0,.slice none 0 0,.int .i64 0] 29)).grown hgrow8 (by simp [Value.ownBlock]);have ht8:=Turn2.grown (Turn2.al HT7.out (.cells #[.int .i64 0,.string ⟨#[]⟩,.int .i64 0,.slice none 0 0,.int .i64 0] 29)) hgrow8 (by simp [Value.ownBlock]);have htz8:=TrU.app (g:=g) (B:=wb.heap.size) (HTX7.out.al (.cells #[.int .i64 0,.string ⟨#[]⟩,.int .i64 0,.slice none 0 0,.int .i64 0] 29)) hgrow8 (by simp [Value.ownBlock]) hat8 (by omega);obtain ⟨s8,⟨k0,k1,k2,k3,k4⟩,j0,j1,j2,j3,j4⟩:=RowT.last (acc:=[]) (n:=1) (o:=0) hrow8 rfl;obtain ⟨⟨s0,s1,s2,s3,s4⟩,r0,r1,r2,r3,r4⟩:=hn8.five)
         | (refine step_append_row (v := .slice none 0 0) (acc:=[]) (B:=wb.heap.size) (by rfl) _ _ (by rfl) (by rfl) (RowT.nil) zeroL ⟨vv1.heap.size,0,none⟩ 1 1 (by rfl) (by rfl) (zero_news (by exact hzb7.out)) zero_ok (by decide) (by simp) (by first | omega | (simp;omega)) ?_;intro g cap w8 hrow8 hgrow8 hat8 hlt8;have hrow8:RowT wb.heap.size w8 ([]++[zeroT]) (.slice (some ⟨g,0,none⟩) 1 cap):=hrow8;have hn8:=hn7.grown hgrow8 (by simp [Value.ownBlock]);have hgn:g≠nb:=(by rcases hat8 with h | h;(exact absurd h (by simp [Value.ownBlock]));(first | omega | (simp at h;omega)));have hng:nb≠g:=Ne.symm hgn;have hgw:wb.heap.size≤g:=(by rcases hat8 with h | h;(exact absurd h (by simp [Value.ownBlock]));(first | omega | (simp at h;omega)));have hs8:=HS7.out.grown hgrow8 (by simp [Value.ownBlock]);have ht8:=Turn2.grown (HT7.out) hgrow8 (by simp [Value.ownBlock]);have htz8:=TrU.app (g:=g) (B:=wb.heap.size) (HTX7.out) hgrow8 (by simp [Value.ownBlock]) hat8 (by omega);obtain ⟨s8,⟨k0,k1,k2,k3,k4⟩,j0,j1,j2,j3,j4⟩:=RowT.last (acc:=[]) (n:=1) (o:=0) hrow8 rfl;obtain ⟨⟨s0,s1,s2,s3,s4⟩,r0,r1,r2,r3,r4⟩:=hn8.five)
         | (go_simp;go_at_call 27;refine (R.expr _ _ _ HSd.out HM.out).mono ?_;rintro e w7 ⟨⟨vv7,rfl,hok7,d7,sl7,rfl,htr7⟩,hs7,ht7⟩;have hn7:=hn1d.tr ht7 hnr;have HT7:=Lib.hid (Turn2.r HTd.out ht7);have HTX7:=Lib.hid (htr7.weaken (B':=vv1.heap.size) (Nat.le_refl _));have hwz7:vv1.heap.size≤w7.heap.size:=ht7.size;obtain ⟨A7,c7,rfl⟩:=htr7.form;have HOK7:=Lib.hid hok7;have HS7:=Lib.hid hs7;obtain ⟨⟨t0,t1,t2,t3,t4⟩,u0,u1,u2,u3,u4⟩:=hn7.five;have hz7:=hn7.lt)
         | (go_simp;go_at_call 27;refine (R.expr _ _ _ (HS1.out.alloc (.cells #[.int .i64 0,.string ⟨#[]⟩,.int .i64 0,.slice none 0 0,.int .i64 0] 29)).dr HM.out).mono ?_;rintro e w7 ⟨⟨vv7,rfl,hok7,d7,sl7,rfl,htr7⟩,hs7,ht7⟩;have hn7:=(HN1.out.alloc (.cells #[.int .i64 0,.string ⟨#[]⟩,.int .i64 0,.slice none 0 0,.int .i64 0] 29)).dr.tr ht7 hnr;have HT7:=Lib.hid (Turn2.r (Turn2.dr (Turn2.al HT1.out (.cells #[.int .i64 0,.string ⟨#[]⟩,.int .i64 0,.slice none 0 0,.int .i64 0] 29))) ht7);have HTX7:=Lib.hid (htr7.weaken (B':=vv1.heap.size) (by show vv1.heap.size≤(vv1.alloc _).heap.size;rw [World.size_alloc];omega));have hwz7:vv1.heap.size<w7.heap.size:=(by have h9:(vv1.alloc (.cells #[.int .i64 0,.string ⟨#[]⟩,.int .i64 0,.slice none 0 0,.int .i64 0] 29)).heap.size≤w7.heap.size:=ht7.size;rw [World.size_alloc] at h9;omega);have hzb7:=Lib.hid ((Blk.new vv1 29 #[.int .i64 0,.string ⟨#[]⟩,.int .i64 0,.slice none 0 0,.int .i64 0]).dr.tr ht7 (by omega));obtain ⟨A7,c7,rfl⟩:=htr7.form;have HOK7:=Lib.hid hok7;have HS7:=Lib.hid hs7;obtain ⟨⟨t0,t1,t2,t3,t4⟩,u0,u1,u2,u3,u4⟩:=hn7.five;have hz7:=hn7.lt))
        all_goals
         first
          | (have hq7:=hzb7
             obtain ⟨m7,hm7⟩ : ∃ m,m=vv1.heap.size:=⟨_,rfl⟩
             rw [← hm7]
             refine ⟨A7,c7,m7,g,cap,rfl,?_⟩)
          | (obtain ⟨m7,hm7⟩ : ∃ m,m=w7.heap.size:=⟨_,rfl⟩
             rw [← hm7]
             refine ⟨A7,c7,m7,g,cap,rfl,?_⟩)
         first
          | ((with_reducible refine app_a hrb hnl hgw hs8 ht8 hn8 hrow8 (acc:=[]) (o:=0) ?_ rfl HOK7.out htz8 ?_ ?_ ?_ ?_) <;> rfl)
          | ((with_reducible refine app_b hrb hnl hgw hs8 ht8 hn8 hrow8 (acc:=[]) (o:=0) ?_ rfl HOK7.out htz8 ?_ ?_ ?_ ?_) <;> rfl)
       intro A72 c72 m72 g2 cap2 w22 hap
       have hs:=hap.st
       have ht:=hap.tn
       have hb:=hap.blk
       have hr:RowT wb.heap.size w22 [x1] _:=hap.row
       clear hap
       have HS2:=Lib.hid hs
       have HT2:=Lib.hid ht
       have hn2:=hb
       have HR2:=Lib.hid hr
       clear hs ht hb hr
       clear a0 a1 a2 a3 a4 f0 f1 f2 f3 f4 hn1d HSd HTd
       rcases bind_some h2 with ⟨⟨c,ln2⟩,h1,rfl⟩ | ⟨_,q,h1,h9⟩
       ·have HM:=Lib.hid h1
        clear h1 h2
        go_wp2_with fail
        refine (end_calls _ rb last _ HS2.out _ HM.out).mono ?_
        rintro e w9 ⟨rfl,ht⟩
        exact ⟨rfl,HPX.out _ _ _ rfl (Turn2.r HT2.out ht)⟩
       have HM:=Lib.hid h1
       clear h1 h2
       go_wp2_with fail
       refine (end_calls _ rb last _ HS2.out _ HM.out).mono ?_
       rintro e w9 ⟨⟨v,rfl,-⟩,hs,ht⟩
       have HS3:=Lib.hid hs
       have HT3:=Lib.hid (Turn2.r HT2.out ht)
       have hn3:=hn2.tr ht hnr
       have HR3:=Lib.hid (HR2.out.tr ht (by omega))
       clear hs ht hn2
       have hkr:=HKR.out.turn HT3.out (by omega)
       obtain ⟨⟨b0,b1,b2,b3,b4⟩,g0,g1,g2,g3,g4⟩:=hkr.five
       obtain ⟨⟨n0,n1,n2,n3,n4⟩,-⟩:=hn3.five
       have HK:=Lib.hid hkr
       have HTF:=Lib.hid (Turn2.fresh HTR.out HT3.out (by omega))
       have hwx:w.heap.size+1≤wb.heap.size:=by omega
       obtain ⟨d9,htr9⟩:=(HR3.out.weaken (B':=w.heap.size+1) hwx).treesU (by simp)
       have HTX:=Lib.hid htr9
       have hzn:=hn3.lt
       obtain rfl:=some_ok h9
       clear h9 htr9 hkr hn3
       go_wp2
       refine ret_node (HK.out.set5 _ _ _ _ _) rfl rfl rfl ?_
       obtain ⟨q1,q2,q3⟩:=fin_old (x:=nd 31 [] [x1] (hereF last l).line) hlt HS3.out HTF.out (nd_ok (by decide) (by decide)) HTX.out
       exact PostS.ok rfl q3 q1 q2
end
section
open Go.RowKit Go.Sort
theorem allR (rb last:Nat) : ∀ f,AllR rb last f
 | 0 =>
  { expr:=(fun _ _ _ _ h=>nomatch h)
    cond:=(fun _ _ _ _ h=>nomatch h)
    level:=(fun _ _ _ _ _ _ h=>nomatch h)
    signed:=(fun _ _ _ _ h=>nomatch h)
    chain:=(fun _ _ _ _ h=>nomatch h)
    members:=(fun _ _ _ _ _ _ _ _ _ _ _ h=>nomatch h)
    thing:=(fun _ _ _ _ h=>nomatch h)
    rest:=(fun _ _ _ _ h=>nomatch h)
    block:=(fun _ _ _ _ h=>nomatch h)
    stmts:=(fun _ _ _ _ h=>nomatch h)
    within:=(fun _ _ _ _ h=>nomatch h)
    stmt:=(fun _ _ _ _ h=>nomatch h) }
 | f+1 =>
  have R:=allR rb last f
  have HA:=args_calls R
  { expr:=fun w l y h hy=>expr_step R w l y h hy
    cond:=fun w l y h hy=>cond_step R w l y h hy
    level:=fun n w l y hn h hy=>level_step R n w l y hn h hy
    signed:=fun w l y h hy=>signed_step R w l y h hy
    chain:=fun w l y h hy=>chain_step R HA w l y h hy
    members:=fun b B x xv w l y h1 h2 h3 h hy=>members_step R HA b B x xv w l y h1 h2 h3 h hy
    thing:=fun w l y h hy=>thing_step R (obj_step R) w l y h hy
    rest:=fun w l y h hy=>rest_step R w l y h hy
    block:=fun w l y h hy=>block_step R w l y h hy
    stmts:=fun w l y h hy=>stmts_step R w l y h hy
    within:=fun w l y h hy=>within_step R w l y h hy
    stmt:=fun w l y h hy=>stmt_step R w l y h hy }
end
section
open Go.RowKit Go.Sort
set_option maxRecDepth 100000 in
set_option maxHeartbeats 4000000 in
theorem one_stmts (f:Nat) (l:List Tl):OneC 33 l (((fns (lastF l) f).stmts [] l).bind fun ps r => .ok (nd 32 [] ps (hereF (lastF l) l).line) r):=by
 refine ⟨enters_of Tryz.func33 (by kernel_rfl) rfl,fun rb w y h hy => ?_⟩
 have f3:=field_tok3
 have hlt:=h.lt
 have HS0:=Lib.hid (h.alloc (.cells zeroN 29))
 have hk0:=Blk.new w 29 zeroN
 have HT0:=Lib.hid (alloc_turn w rb (.cells zeroN 29))
 have R:=allR rb (lastF l) f
 clear h
 go_enter Tryz.func33,Tryz.ntmps33
 go_wp2_with fail
 refine (here_calls _ rb (lastF l) _ HS0.out).mono ?_
 rintro e w2 ⟨rfl,hb⟩
 unfold tokV
 have ht:=turn_below (rb:=rb) hb
 have HS1:=Lib.hid (HS0.out.below hb)
 have HT1:=Lib.hid (TurnR.trans HT0.out ht)
 have hk1:=hk0.tr ht (by omega)
 have hz1:=hk1.lt
 clear hb ht hk0
 rcases bind_some hy with ⟨⟨c,ln⟩,h1,rfl⟩ | ⟨ps,r,h1,h2⟩
 ·have HM:=Lib.hid h1
  clear h1 hy
  go_wp2_with fail
  refine (R.stmts _ _ _ HS1.out HM.out).mono ?_
  rintro e w3 ⟨rfl,ht⟩
  exact ⟨rfl,PostS.err rfl (TurnR.trans HT1.out ht)⟩
 have HM:=Lib.hid h1
 obtain rfl:=some_ok h2
 clear h1 hy h2
 go_wp2_with fail
 refine (R.stmts _ _ _ HS1.out HM.out).mono ?_
 rintro e w3 ⟨⟨v,rfl,hrow,hlen⟩,hs,ht⟩
 have hk3:=hk1.tr ht (by omega)
 obtain ⟨A,cA,rfl⟩:=hrow.form
 obtain ⟨d,htr⟩:=hrow.treesU (by omega)
 obtain ⟨⟨b0,b1,b2,b3,b4⟩,g0,g1,g2,g3,g4⟩:=hk3.five
 have HK:=Lib.hid hk3
 have HS3:=Lib.hid hs
 have HT3:=Lib.hid (TurnR.trans HT1.out ht)
 have HTX:=Lib.hid (TrU.weaken (B':=w.heap.size+1) (by omega) htr)
 clear hs ht hrow htr hk3 hk1
 go_wp2
 refine ret_node (HK.out.set5 _ _ _ _ _) rfl rfl rfl ?_
 obtain ⟨q1,q2,q3⟩:=fin_old (x:=nd 32 [] ps (hereF (lastF l) l).line) hlt HS3.out HT3.out (nd_ok (by decide) (by decide)) HTX.out
 exact PostS.ok rfl q3 q1 q2
theorem one_expr (f:Nat) (l:List Tl):OneC 27 l ((fns (lastF l) f).expr l) :=
 ⟨enters_of Tryz.func27 (by kernel_rfl) rfl,fun rb w y h hy=>(allR rb (lastF l) f).expr w l y h hy⟩
theorem isR_right:IsR 17 rightB:=⟨enters_of Tryz.func17 (by kernel_rfl) rfl,fun d w t sl hl hk hok=>right_calls d w t sl hl hk hok⟩
theorem isR_expr:IsR 13 rightE:=⟨enters_of Tryz.func13 (by kernel_rfl) rfl,fun d w t sl hl hk hok=>rightExpr_calls d w t sl hl hk hok⟩
def ParseP (f:Tree→Bool) (w:World) (y:Except (Int × Int) (Tree × List Tl)) (e:Ending) (w':World):Prop :=
 match y with
 | .ok (t,_) => ∃ d A c,e = .returned (.tuple #[if f t then nodeV t (.slice A t.l.length c) else zeroV,.int .i64 0,.int .i64 (if f t then 0 else 41)])∧t.ok∧TrU w.heap.size w' d t.l (.slice A t.l.length c)∧Below w.heap.size w w'
 | .error (c,ln)=>e = .returned (.tuple #[zeroV,.int .i64 ln,.int .i64 c])∧Below w.heap.size w w'
structure Ready (w:World):Prop where
 laid:LaidU w.heap.size w
 et:w.cell? ⟨0,0,none⟩=some (.iface 151 (.agg #[.pointer (some ⟨12,48,none⟩)]))
 pos:0<w.heap.size
theorem Ready.below {w w':World} (h:Ready w) (hb:Below w.heap.size w w'):Ready w' :=
 ⟨fun w9 h9=>h.laid w9 (hb.trans (h9.mono hb.size)),(World.cell?_of_block (hb.block 0 h.pos)).trans h.et,Nat.lt_of_lt_of_le h.pos hb.size⟩
end
end Go.Proofs.YtjjdmiaonkailaaGreatDoor
