/- Walks and plain laws, packed: TxB, TxC, ShT, Sh4, LexR. -/
import Derived.Test.YtjjdmiaonkailaaGreatDoorK17
import Derived.Test.YtjjdmiaonkailaaGreatDoorK45
import Derived.Test.YtjjdmiaonkailaaGreatDoorK07
namespace Go.Proofs.YtjjdmiaonkailaaGreatDoor
section
open Go.RowKit Go.Sort
set_option maxRecDepth 100000 in
set_option maxHeartbeats 2000000 in
theorem text_14 (h:Nat) (t a b:Tree) (i:ByteArray) (hop:t.op=14) (hta:t.l=[a,b]) (hca:ExprT h a i) (hcb:ExprT h b i) (hT:(T (h+1) t i.data.toList).length≤140737488355328):ExprT (h+1) t i:=by
 intro d w sl hl hk
 obtain ⟨hlen,A,c,rfl⟩:=hk.form
 unfold maxLen at hlen
 have HFL:Hid ((([⟨(T h a i.data.toList).toArray⟩,⟨#[91]⟩,⟨(T h b i.data.toList).toArray⟩,⟨#[93]⟩]:List ByteArray).map (·.data.toList)).flatten=T (h+1) t i.data.toList):=Lib.hid (by simp [T,stepT,hop,hta])
 have HJ:Hid (∀ w9:World,Calls Tryz.prog 67 #[.slice (some ⟨w9.heap.size,0,none⟩) 4 4] (w9.alloc (.cells #[.string ⟨(T h a i.data.toList).toArray⟩,.string ⟨#[91]⟩,.string ⟨(T h b i.data.toList).toArray⟩,.string ⟨#[93]⟩] 9)) fun e w'=>e = .returned (.string ⟨(T (h+1) t i.data.toList).toArray⟩)∧Below w9.heap.size w9 w'):=Lib.hid fun w9=>by
  have:=join_at w9 [⟨(T h a i.data.toList).toArray⟩,⟨#[91]⟩,⟨(T h b i.data.toList).toArray⟩,⟨#[93]⟩] (by simp) (by rw [HFL.out];exact hT)
  rw [HFL.out] at this
  exact this
 rw [hop]
 have hopw : ∀ v:Value,Value.int .i64 t.op=v→v = .int .i64 14:=fun v e=>by rw [← e,hop]
 clear hopw
 obtain ⟨w0,hw0⟩ : ∃ w0,w.alloc (.cells #[.int .i64 14,.string t.s,.int .i64 t.n,.slice A t.l.length c,.int .i64 t.line] 29)=w0:=⟨_,rfl⟩
 obtain ⟨w1,hw1⟩ : ∃ w1,w0.alloc (.cells #[.string i] 9)=w1:=⟨_,rfl⟩
 have bx0:Blk5 w0 w.heap.size 14 t.s t.n (.slice A t.l.length c) t.line:=by rw [← hw0];exact blk5_new _ _ _ _ _ _
 have hb0:Below w.heap.size w w0:=by rw [← hw0];exact (Below.refl _ _).alloc (Nat.le_refl _) _
 have hb1:Below w0.heap.size w0 w1:=by rw [← hw1];exact (Below.refl _ _).alloc (Nat.le_refl _) _
 have hm:w1.cell? ⟨w0.heap.size,0,none⟩=some (.string i):=by rw [← hw1];exact cell_of_row _ _ 0 #[.string i] 9 (0,0) (heap_alloc_new _ _)
 have bx:=bx0.keep hb1
 have HB:=Lib.hid (hb0.trans (hb1.mono hb0.size))
 have hhd:Held w1 w.heap.size w0.heap.size t A c i:=⟨by rw [hop];exact bx,hm⟩
 have HH:=Lib.hid hhd
 have HL:=Lib.hid (hl.below HB.out)
 have HK:=Lib.hid (hk.below HB.out)
 have HAa:=Lib.hid (fun (w9:World) (hb9:Below w1.heap.size w1 w9)=>at_calls w9 w.heap.size w0.heap.size t A c i (HH.out.below hb9) (HL.out.below hb9) d (HK.out.below hb9) 0 a (by rw [hta];rfl) h hca)
 have HAb:=Lib.hid (fun (w9:World) (hb9:Below w1.heap.size w1 w9)=>at_calls w9 w.heap.size w0.heap.size t A c i (HH.out.below hb9) (HL.out.below hb9) d (HK.out.below hb9) 1 b (by rw [hta];rfl) h hcb)
 obtain ⟨c0,c1,c2,c3,c4⟩:=bx
 clear bx0 hb0 hb1 hl hk hhd hT hop hta HFL hca hcb
 generalize T h a i.data.toList=Xa at HJ HAa
 generalize T h b i.data.toList=Xb at HJ HAb
 go_enter Tryz.func39,Tryz.ntmps39
 go_wp2_with (first
  | (go_at_call 70;refine (HAb.out v0 HB_v0.out).mono ?_;rintro e v1 ⟨rfl,hb⟩;have HB_v1:=Lib.hid (HB_v0.out.trans (hb.mono HB_v0.out.size));clear hb)
  | (go_at_call 70;refine (HAa.out w1 (Below.refl _ _)).mono ?_;rintro e v0 ⟨rfl,hb⟩;have HB_v0:=Lib.hid (hb);clear hb)
  | (go_at_call 67;refine (HJ.out _).mono ?_;rintro e wz ⟨rfl,hb⟩;have HBZ:=Lib.hid (HB_v1.out.trans (hb.mono HB_v1.out.size));clear hb))
 go_ret
 exact ⟨rfl,HB.out.trans (HBZ.out.mono HB.out.size)⟩
set_option maxRecDepth 100000 in
set_option maxHeartbeats 2000000 in
theorem text_17 (h:Nat) (t a b:Tree) (i:ByteArray) (hop:t.op=17) (hta:t.l=[a,b]) (hca:ExprT h a i) (hcb:ExprT h b i) (hT:(T (h+1) t i.data.toList).length≤140737488355328):ExprT (h+1) t i:=by
 intro d w sl hl hk
 obtain ⟨hlen,A,c,rfl⟩:=hk.form
 unfold maxLen at hlen
 have HFL:Hid ((([⟨#[40]⟩,⟨(T h a i.data.toList).toArray⟩,⟨#[32]⟩,⟨#[61]⟩,⟨#[32]⟩,⟨(T h b i.data.toList).toArray⟩,⟨#[41]⟩]:List ByteArray).map (·.data.toList)).flatten=T (h+1) t i.data.toList):=Lib.hid (by simp [T,stepT,signOf,hop,hta])
 have HJ:Hid (∀ w9:World,Calls Tryz.prog 67 #[.slice (some ⟨w9.heap.size,0,none⟩) 7 7] (w9.alloc (.cells #[.string ⟨#[40]⟩,.string ⟨(T h a i.data.toList).toArray⟩,.string ⟨#[32]⟩,.string ⟨#[61]⟩,.string ⟨#[32]⟩,.string ⟨(T h b i.data.toList).toArray⟩,.string ⟨#[41]⟩] 9)) fun e w'=>e = .returned (.string ⟨(T (h+1) t i.data.toList).toArray⟩)∧Below w9.heap.size w9 w'):=Lib.hid fun w9=>by
  have:=join_at w9 [⟨#[40]⟩,⟨(T h a i.data.toList).toArray⟩,⟨#[32]⟩,⟨#[61]⟩,⟨#[32]⟩,⟨(T h b i.data.toList).toArray⟩,⟨#[41]⟩] (by simp) (by rw [HFL.out];exact hT)
  rw [HFL.out] at this
  exact this
 rw [hop]
 have hopw : ∀ v:Value,Value.int .i64 t.op=v→v = .int .i64 17:=fun v e=>by rw [← e,hop]
 clear hopw
 obtain ⟨w0,hw0⟩ : ∃ w0,w.alloc (.cells #[.int .i64 17,.string t.s,.int .i64 t.n,.slice A t.l.length c,.int .i64 t.line] 29)=w0:=⟨_,rfl⟩
 obtain ⟨w1,hw1⟩ : ∃ w1,w0.alloc (.cells #[.string i] 9)=w1:=⟨_,rfl⟩
 have bx0:Blk5 w0 w.heap.size 17 t.s t.n (.slice A t.l.length c) t.line:=by rw [← hw0];exact blk5_new _ _ _ _ _ _
 have hb0:Below w.heap.size w w0:=by rw [← hw0];exact (Below.refl _ _).alloc (Nat.le_refl _) _
 have hb1:Below w0.heap.size w0 w1:=by rw [← hw1];exact (Below.refl _ _).alloc (Nat.le_refl _) _
 have hm:w1.cell? ⟨w0.heap.size,0,none⟩=some (.string i):=by rw [← hw1];exact cell_of_row _ _ 0 #[.string i] 9 (0,0) (heap_alloc_new _ _)
 have bx:=bx0.keep hb1
 have HB:=Lib.hid (hb0.trans (hb1.mono hb0.size))
 have hhd:Held w1 w.heap.size w0.heap.size t A c i:=⟨by rw [hop];exact bx,hm⟩
 have HH:=Lib.hid hhd
 have HL:=Lib.hid (hl.below HB.out)
 have HK:=Lib.hid (hk.below HB.out)
 have HAa:=Lib.hid (fun (w9:World) (hb9:Below w1.heap.size w1 w9)=>at_calls w9 w.heap.size w0.heap.size t A c i (HH.out.below hb9) (HL.out.below hb9) d (HK.out.below hb9) 0 a (by rw [hta];rfl) h hca)
 have HAb:=Lib.hid (fun (w9:World) (hb9:Below w1.heap.size w1 w9)=>at_calls w9 w.heap.size w0.heap.size t A c i (HH.out.below hb9) (HL.out.below hb9) d (HK.out.below hb9) 1 b (by rw [hta];rfl) h hcb)
 obtain ⟨c0,c1,c2,c3,c4⟩:=bx
 clear bx0 hb0 hb1 hl hk hhd hT hop hta HFL hca hcb
 generalize T h a i.data.toList=Xa at HJ HAa
 generalize T h b i.data.toList=Xb at HJ HAb
 go_enter Tryz.func39,Tryz.ntmps39
 go_wp2_with (first
  | (go_at_call 70;refine (HAb.out v0 HB_v0.out).mono ?_;rintro e v1 ⟨rfl,hb⟩;have HB_v1:=Lib.hid (HB_v0.out.trans (hb.mono HB_v0.out.size));clear hb)
  | (go_at_call 70;refine (HAa.out w1 (Below.refl _ _)).mono ?_;rintro e v0 ⟨rfl,hb⟩;have HB_v0:=Lib.hid (hb);clear hb)
  | (go_at_call 67;refine (HJ.out _).mono ?_;rintro e wz ⟨rfl,hb⟩;have HBZ:=Lib.hid (HB_v1.out.trans (hb.mono HB_v1.out.size));clear hb))
 go_ret
 exact ⟨rfl,HB.out.trans (HBZ.out.mono HB.out.size)⟩
set_option maxRecDepth 100000 in
set_option maxHeartbeats 2000000 in
theorem text_18 (h:Nat) (t a b:Tree) (i:ByteArray) (hop:t.op=18) (hta:t.l=[a,b]) (hca:ExprT h a i) (hcb:ExprT h b i) (hT:(T (h+1) t i.data.toList).length≤140737488355328):ExprT (h+1) t i:=by
 intro d w sl hl hk
 obtain ⟨hlen,A,c,rfl⟩:=hk.form
 unfold maxLen at hlen
 have HFL:Hid ((([⟨#[40]⟩,⟨(T h a i.data.toList).toArray⟩,⟨#[32]⟩,t.s,⟨#[32]⟩,⟨(T h b i.data.toList).toArray⟩,⟨#[41]⟩]:List ByteArray).map (·.data.toList)).flatten=T (h+1) t i.data.toList):=Lib.hid (by simp [T,stepT,signOf,hop,hta])
 have HJ:Hid (∀ w9:World,Calls Tryz.prog 67 #[.slice (some ⟨w9.heap.size,0,none⟩) 7 7] (w9.alloc (.cells #[.string ⟨#[40]⟩,.string ⟨(T h a i.data.toList).toArray⟩,.string ⟨#[32]⟩,.string t.s,.string ⟨#[32]⟩,.string ⟨(T h b i.data.toList).toArray⟩,.string ⟨#[41]⟩] 9)) fun e w'=>e = .returned (.string ⟨(T (h+1) t i.data.toList).toArray⟩)∧Below w9.heap.size w9 w'):=Lib.hid fun w9=>by
  have:=join_at w9 [⟨#[40]⟩,⟨(T h a i.data.toList).toArray⟩,⟨#[32]⟩,t.s,⟨#[32]⟩,⟨(T h b i.data.toList).toArray⟩,⟨#[41]⟩] (by simp) (by rw [HFL.out];exact hT)
  rw [HFL.out] at this
  exact this
 rw [hop]
 have hopw : ∀ v:Value,Value.int .i64 t.op=v→v = .int .i64 18:=fun v e=>by rw [← e,hop]
 clear hopw
 obtain ⟨w0,hw0⟩ : ∃ w0,w.alloc (.cells #[.int .i64 18,.string t.s,.int .i64 t.n,.slice A t.l.length c,.int .i64 t.line] 29)=w0:=⟨_,rfl⟩
 obtain ⟨w1,hw1⟩ : ∃ w1,w0.alloc (.cells #[.string i] 9)=w1:=⟨_,rfl⟩
 have bx0:Blk5 w0 w.heap.size 18 t.s t.n (.slice A t.l.length c) t.line:=by rw [← hw0];exact blk5_new _ _ _ _ _ _
 have hb0:Below w.heap.size w w0:=by rw [← hw0];exact (Below.refl _ _).alloc (Nat.le_refl _) _
 have hb1:Below w0.heap.size w0 w1:=by rw [← hw1];exact (Below.refl _ _).alloc (Nat.le_refl _) _
 have hm:w1.cell? ⟨w0.heap.size,0,none⟩=some (.string i):=by rw [← hw1];exact cell_of_row _ _ 0 #[.string i] 9 (0,0) (heap_alloc_new _ _)
 have bx:=bx0.keep hb1
 have HB:=Lib.hid (hb0.trans (hb1.mono hb0.size))
 have hhd:Held w1 w.heap.size w0.heap.size t A c i:=⟨by rw [hop];exact bx,hm⟩
 have HH:=Lib.hid hhd
 have HL:=Lib.hid (hl.below HB.out)
 have HK:=Lib.hid (hk.below HB.out)
 have HAa:=Lib.hid (fun (w9:World) (hb9:Below w1.heap.size w1 w9)=>at_calls w9 w.heap.size w0.heap.size t A c i (HH.out.below hb9) (HL.out.below hb9) d (HK.out.below hb9) 0 a (by rw [hta];rfl) h hca)
 have HAb:=Lib.hid (fun (w9:World) (hb9:Below w1.heap.size w1 w9)=>at_calls w9 w.heap.size w0.heap.size t A c i (HH.out.below hb9) (HL.out.below hb9) d (HK.out.below hb9) 1 b (by rw [hta];rfl) h hcb)
 obtain ⟨c0,c1,c2,c3,c4⟩:=bx
 clear bx0 hb0 hb1 hl hk hhd hT hop hta HFL hca hcb
 generalize T h a i.data.toList=Xa at HJ HAa
 generalize T h b i.data.toList=Xb at HJ HAb
 go_enter Tryz.func39,Tryz.ntmps39
 go_wp2_with (first
  | (go_at_call 70;refine (HAb.out v0 HB_v0.out).mono ?_;rintro e v1 ⟨rfl,hb⟩;have HB_v1:=Lib.hid (HB_v0.out.trans (hb.mono HB_v0.out.size));clear hb)
  | (go_at_call 70;refine (HAa.out w1 (Below.refl _ _)).mono ?_;rintro e v0 ⟨rfl,hb⟩;have HB_v0:=Lib.hid (hb);clear hb)
  | (go_at_call 67;refine (HJ.out _).mono ?_;rintro e wz ⟨rfl,hb⟩;have HBZ:=Lib.hid (HB_v1.out.trans (hb.mono HB_v1.out.size));clear hb))
 go_ret
 exact ⟨rfl,HB.out.trans (HBZ.out.mono HB.out.size)⟩
set_option maxRecDepth 100000 in
set_option maxHeartbeats 2000000 in
theorem text_21 (h:Nat) (t a b:Tree) (i:ByteArray) (hop:t.op=21) (hta:t.l=[a,b]) (hca:ExprT h a i) (hcb:ExprT h b i) (hT:(T (h+1) t i.data.toList).length≤140737488355328):ExprT (h+1) t i:=by
 intro d w sl hl hk
 obtain ⟨hlen,A,c,rfl⟩:=hk.form
 unfold maxLen at hlen
 have HFL:Hid ((([⟨#[40]⟩,⟨(T h a i.data.toList).toArray⟩,⟨#[32]⟩,⟨#[38,38]⟩,⟨#[32]⟩,⟨(T h b i.data.toList).toArray⟩,⟨#[41]⟩]:List ByteArray).map (·.data.toList)).flatten=T (h+1) t i.data.toList):=Lib.hid (by simp [T,stepT,signOf,hop,hta])
 have HJ:Hid (∀ w9:World,Calls Tryz.prog 67 #[.slice (some ⟨w9.heap.size,0,none⟩) 7 7] (w9.alloc (.cells #[.string ⟨#[40]⟩,.string ⟨(T h a i.data.toList).toArray⟩,.string ⟨#[32]⟩,.string ⟨#[38,38]⟩,.string ⟨#[32]⟩,.string ⟨(T h b i.data.toList).toArray⟩,.string ⟨#[41]⟩] 9)) fun e w'=>e = .returned (.string ⟨(T (h+1) t i.data.toList).toArray⟩)∧Below w9.heap.size w9 w'):=Lib.hid fun w9=>by
  have:=join_at w9 [⟨#[40]⟩,⟨(T h a i.data.toList).toArray⟩,⟨#[32]⟩,⟨#[38,38]⟩,⟨#[32]⟩,⟨(T h b i.data.toList).toArray⟩,⟨#[41]⟩] (by simp) (by rw [HFL.out];exact hT)
  rw [HFL.out] at this
  exact this
 rw [hop]
 have hopw : ∀ v:Value,Value.int .i64 t.op=v→v = .int .i64 21:=fun v e=>by rw [← e,hop]
 clear hopw
 obtain ⟨w0,hw0⟩ : ∃ w0,w.alloc (.cells #[.int .i64 21,.string t.s,.int .i64 t.n,.slice A t.l.length c,.int .i64 t.line] 29)=w0:=⟨_,rfl⟩
 obtain ⟨w1,hw1⟩ : ∃ w1,w0.alloc (.cells #[.string i] 9)=w1:=⟨_,rfl⟩
 have bx0:Blk5 w0 w.heap.size 21 t.s t.n (.slice A t.l.length c) t.line:=by rw [← hw0];exact blk5_new _ _ _ _ _ _
 have hb0:Below w.heap.size w w0:=by rw [← hw0];exact (Below.refl _ _).alloc (Nat.le_refl _) _
 have hb1:Below w0.heap.size w0 w1:=by rw [← hw1];exact (Below.refl _ _).alloc (Nat.le_refl _) _
 have hm:w1.cell? ⟨w0.heap.size,0,none⟩=some (.string i):=by rw [← hw1];exact cell_of_row _ _ 0 #[.string i] 9 (0,0) (heap_alloc_new _ _)
 have bx:=bx0.keep hb1
 have HB:=Lib.hid (hb0.trans (hb1.mono hb0.size))
 have hhd:Held w1 w.heap.size w0.heap.size t A c i:=⟨by rw [hop];exact bx,hm⟩
 have HH:=Lib.hid hhd
 have HL:=Lib.hid (hl.below HB.out)
 have HK:=Lib.hid (hk.below HB.out)
 have HAa:=Lib.hid (fun (w9:World) (hb9:Below w1.heap.size w1 w9)=>at_calls w9 w.heap.size w0.heap.size t A c i (HH.out.below hb9) (HL.out.below hb9) d (HK.out.below hb9) 0 a (by rw [hta];rfl) h hca)
 have HAb:=Lib.hid (fun (w9:World) (hb9:Below w1.heap.size w1 w9)=>at_calls w9 w.heap.size w0.heap.size t A c i (HH.out.below hb9) (HL.out.below hb9) d (HK.out.below hb9) 1 b (by rw [hta];rfl) h hcb)
 obtain ⟨c0,c1,c2,c3,c4⟩:=bx
 clear bx0 hb0 hb1 hl hk hhd hT hop hta HFL hca hcb
 generalize T h a i.data.toList=Xa at HJ HAa
 generalize T h b i.data.toList=Xb at HJ HAb
 go_enter Tryz.func39,Tryz.ntmps39
 go_wp2_with (first
  | (go_at_call 70;refine (HAb.out v0 HB_v0.out).mono ?_;rintro e v1 ⟨rfl,hb⟩;have HB_v1:=Lib.hid (HB_v0.out.trans (hb.mono HB_v0.out.size));clear hb)
  | (go_at_call 70;refine (HAa.out w1 (Below.refl _ _)).mono ?_;rintro e v0 ⟨rfl,hb⟩;have HB_v0:=Lib.hid (hb);clear hb)
  | (go_at_call 67;refine (HJ.out _).mono ?_;rintro e wz ⟨rfl,hb⟩;have HBZ:=Lib.hid (HB_v1.out.trans (hb.mono HB_v1.out.size));clear hb))
 go_ret
 exact ⟨rfl,HB.out.trans (HBZ.out.mono HB.out.size)⟩
set_option maxRecDepth 100000 in
set_option maxHeartbeats 2000000 in
theorem text_22 (h:Nat) (t a b:Tree) (i:ByteArray) (hop:t.op=22) (hta:t.l=[a,b]) (hca:ExprT h a i) (hcb:ExprT h b i) (hT:(T (h+1) t i.data.toList).length≤140737488355328):ExprT (h+1) t i:=by
 intro d w sl hl hk
 obtain ⟨hlen,A,c,rfl⟩:=hk.form
 unfold maxLen at hlen
 have HFL:Hid ((([⟨#[40]⟩,⟨(T h a i.data.toList).toArray⟩,⟨#[32]⟩,⟨#[124,124]⟩,⟨#[32]⟩,⟨(T h b i.data.toList).toArray⟩,⟨#[41]⟩]:List ByteArray).map (·.data.toList)).flatten=T (h+1) t i.data.toList):=Lib.hid (by simp [T,stepT,signOf,hop,hta])
 have HJ:Hid (∀ w9:World,Calls Tryz.prog 67 #[.slice (some ⟨w9.heap.size,0,none⟩) 7 7] (w9.alloc (.cells #[.string ⟨#[40]⟩,.string ⟨(T h a i.data.toList).toArray⟩,.string ⟨#[32]⟩,.string ⟨#[124,124]⟩,.string ⟨#[32]⟩,.string ⟨(T h b i.data.toList).toArray⟩,.string ⟨#[41]⟩] 9)) fun e w'=>e = .returned (.string ⟨(T (h+1) t i.data.toList).toArray⟩)∧Below w9.heap.size w9 w'):=Lib.hid fun w9=>by
  have:=join_at w9 [⟨#[40]⟩,⟨(T h a i.data.toList).toArray⟩,⟨#[32]⟩,⟨#[124,124]⟩,⟨#[32]⟩,⟨(T h b i.data.toList).toArray⟩,⟨#[41]⟩] (by simp) (by rw [HFL.out];exact hT)
  rw [HFL.out] at this
  exact this
 rw [hop]
 have hopw : ∀ v:Value,Value.int .i64 t.op=v→v = .int .i64 22:=fun v e=>by rw [← e,hop]
 clear hopw
 obtain ⟨w0,hw0⟩ : ∃ w0,w.alloc (.cells #[.int .i64 22,.string t.s,.int .i64 t.n,.slice A t.l.length c,.int .i64 t.line] 29)=w0:=⟨_,rfl⟩
 obtain ⟨w1,hw1⟩ : ∃ w1,w0.alloc (.cells #[.string i] 9)=w1:=⟨_,rfl⟩
 have bx0:Blk5 w0 w.heap.size 22 t.s t.n (.slice A t.l.length c) t.line:=by rw [← hw0];exact blk5_new _ _ _ _ _ _
 have hb0:Below w.heap.size w w0:=by rw [← hw0];exact (Below.refl _ _).alloc (Nat.le_refl _) _
 have hb1:Below w0.heap.size w0 w1:=by rw [← hw1];exact (Below.refl _ _).alloc (Nat.le_refl _) _
 have hm:w1.cell? ⟨w0.heap.size,0,none⟩=some (.string i):=by rw [← hw1];exact cell_of_row _ _ 0 #[.string i] 9 (0,0) (heap_alloc_new _ _)
 have bx:=bx0.keep hb1
 have HB:=Lib.hid (hb0.trans (hb1.mono hb0.size))
 have hhd:Held w1 w.heap.size w0.heap.size t A c i:=⟨by rw [hop];exact bx,hm⟩
 have HH:=Lib.hid hhd
 have HL:=Lib.hid (hl.below HB.out)
 have HK:=Lib.hid (hk.below HB.out)
 have HAa:=Lib.hid (fun (w9:World) (hb9:Below w1.heap.size w1 w9)=>at_calls w9 w.heap.size w0.heap.size t A c i (HH.out.below hb9) (HL.out.below hb9) d (HK.out.below hb9) 0 a (by rw [hta];rfl) h hca)
 have HAb:=Lib.hid (fun (w9:World) (hb9:Below w1.heap.size w1 w9)=>at_calls w9 w.heap.size w0.heap.size t A c i (HH.out.below hb9) (HL.out.below hb9) d (HK.out.below hb9) 1 b (by rw [hta];rfl) h hcb)
 obtain ⟨c0,c1,c2,c3,c4⟩:=bx
 clear bx0 hb0 hb1 hl hk hhd hT hop hta HFL hca hcb
 generalize T h a i.data.toList=Xa at HJ HAa
 generalize T h b i.data.toList=Xb at HJ HAb
 go_enter Tryz.func39,Tryz.ntmps39
 go_wp2_with (first
  | (go_at_call 70;refine (HAb.out v0 HB_v0.out).mono ?_;rintro e v1 ⟨rfl,hb⟩;have HB_v1:=Lib.hid (HB_v0.out.trans (hb.mono HB_v0.out.size));clear hb)
  | (go_at_call 70;refine (HAa.out w1 (Below.refl _ _)).mono ?_;rintro e v0 ⟨rfl,hb⟩;have HB_v0:=Lib.hid (hb);clear hb)
  | (go_at_call 67;refine (HJ.out _).mono ?_;rintro e wz ⟨rfl,hb⟩;have HBZ:=Lib.hid (HB_v1.out.trans (hb.mono HB_v1.out.size));clear hb))
 go_ret
 exact ⟨rfl,HB.out.trans (HBZ.out.mono HB.out.size)⟩
set_option maxRecDepth 100000 in
set_option maxHeartbeats 2000000 in
theorem text_23 (h:Nat) (t a b g:Tree) (i:ByteArray) (hop:t.op=23) (hta:t.l=[a,b,g]) (hca:ExprT h a i) (hcb:ExprT h b i) (hcg:ExprT h g i) (hT:(T (h+1) t i.data.toList).length≤140737488355328):ExprT (h+1) t i:=by
 intro d w sl hl hk
 obtain ⟨hlen,A,c,rfl⟩:=hk.form
 unfold maxLen at hlen
 have HFL:Hid ((([⟨#[40]⟩,⟨(T h a i.data.toList).toArray⟩,⟨#[32,63,32]⟩,⟨(T h b i.data.toList).toArray⟩,⟨#[32,58,32]⟩,⟨(T h g i.data.toList).toArray⟩,⟨#[41]⟩]:List ByteArray).map (·.data.toList)).flatten=T (h+1) t i.data.toList):=Lib.hid (by simp [T,stepT,hop,hta])
 have HJ:Hid (∀ w9:World,Calls Tryz.prog 67 #[.slice (some ⟨w9.heap.size,0,none⟩) 7 7] (w9.alloc (.cells #[.string ⟨#[40]⟩,.string ⟨(T h a i.data.toList).toArray⟩,.string ⟨#[32,63,32]⟩,.string ⟨(T h b i.data.toList).toArray⟩,.string ⟨#[32,58,32]⟩,.string ⟨(T h g i.data.toList).toArray⟩,.string ⟨#[41]⟩] 9)) fun e w'=>e = .returned (.string ⟨(T (h+1) t i.data.toList).toArray⟩)∧Below w9.heap.size w9 w'):=Lib.hid fun w9=>by
  have:=join_at w9 [⟨#[40]⟩,⟨(T h a i.data.toList).toArray⟩,⟨#[32,63,32]⟩,⟨(T h b i.data.toList).toArray⟩,⟨#[32,58,32]⟩,⟨(T h g i.data.toList).toArray⟩,⟨#[41]⟩] (by simp) (by rw [HFL.out];exact hT)
  rw [HFL.out] at this
  exact this
 rw [hop]
 have hopw : ∀ v:Value,Value.int .i64 t.op=v→v = .int .i64 23:=fun v e=>by rw [← e,hop]
 clear hopw
 obtain ⟨w0,hw0⟩ : ∃ w0,w.alloc (.cells #[.int .i64 23,.string t.s,.int .i64 t.n,.slice A t.l.length c,.int .i64 t.line] 29)=w0:=⟨_,rfl⟩
 obtain ⟨w1,hw1⟩ : ∃ w1,w0.alloc (.cells #[.string i] 9)=w1:=⟨_,rfl⟩
 have bx0:Blk5 w0 w.heap.size 23 t.s t.n (.slice A t.l.length c) t.line:=by rw [← hw0];exact blk5_new _ _ _ _ _ _
 have hb0:Below w.heap.size w w0:=by rw [← hw0];exact (Below.refl _ _).alloc (Nat.le_refl _) _
 have hb1:Below w0.heap.size w0 w1:=by rw [← hw1];exact (Below.refl _ _).alloc (Nat.le_refl _) _
 have hm:w1.cell? ⟨w0.heap.size,0,none⟩=some (.string i):=by rw [← hw1];exact cell_of_row _ _ 0 #[.string i] 9 (0,0) (heap_alloc_new _ _)
 have bx:=bx0.keep hb1
 have HB:=Lib.hid (hb0.trans (hb1.mono hb0.size))
 have hhd:Held w1 w.heap.size w0.heap.size t A c i:=⟨by rw [hop];exact bx,hm⟩
 have HH:=Lib.hid hhd
 have HL:=Lib.hid (hl.below HB.out)
 have HK:=Lib.hid (hk.below HB.out)
 have HAa:=Lib.hid (fun (w9:World) (hb9:Below w1.heap.size w1 w9)=>at_calls w9 w.heap.size w0.heap.size t A c i (HH.out.below hb9) (HL.out.below hb9) d (HK.out.below hb9) 0 a (by rw [hta];rfl) h hca)
 have HAb:=Lib.hid (fun (w9:World) (hb9:Below w1.heap.size w1 w9)=>at_calls w9 w.heap.size w0.heap.size t A c i (HH.out.below hb9) (HL.out.below hb9) d (HK.out.below hb9) 1 b (by rw [hta];rfl) h hcb)
 have HAg:=Lib.hid (fun (w9:World) (hb9:Below w1.heap.size w1 w9)=>at_calls w9 w.heap.size w0.heap.size t A c i (HH.out.below hb9) (HL.out.below hb9) d (HK.out.below hb9) 2 g (by rw [hta];rfl) h hcg)
 obtain ⟨c0,c1,c2,c3,c4⟩:=bx
 clear bx0 hb0 hb1 hl hk hhd hT hop hta HFL hca hcb hcg
 generalize T h a i.data.toList=Xa at HJ HAa
 generalize T h b i.data.toList=Xb at HJ HAb
 generalize T h g i.data.toList=Xg at HJ HAg
 go_enter Tryz.func39,Tryz.ntmps39
 go_wp2_with (first
  | (go_at_call 70;refine (HAg.out v1 HB_v1.out).mono ?_;rintro e v2 ⟨rfl,hb⟩;have HB_v2:=Lib.hid (HB_v1.out.trans (hb.mono HB_v1.out.size));clear hb)
  | (go_at_call 70;refine (HAb.out v0 HB_v0.out).mono ?_;rintro e v1 ⟨rfl,hb⟩;have HB_v1:=Lib.hid (HB_v0.out.trans (hb.mono HB_v0.out.size));clear hb)
  | (go_at_call 70;refine (HAa.out w1 (Below.refl _ _)).mono ?_;rintro e v0 ⟨rfl,hb⟩;have HB_v0:=Lib.hid (hb);clear hb)
  | (go_at_call 67;refine (HJ.out _).mono ?_;rintro e wz ⟨rfl,hb⟩;have HBZ:=Lib.hid (HB_v2.out.trans (hb.mono HB_v2.out.size));clear hb))
 go_ret
 exact ⟨rfl,HB.out.trans (HBZ.out.mono HB.out.size)⟩
end
section
open Go.RowKit Go.Sort
set_option maxRecDepth 100000 in
set_option maxHeartbeats 2000000 in
theorem text_13 (h:Nat) (t a:Tree) (i:ByteArray) (hop:t.op=13) (hta:t.l=[a]) (hca:ExprT h a i) (hT:(T (h+1) t i.data.toList).length≤140737488355328):ExprT (h+1) t i:=by
 intro d w sl hl hk
 obtain ⟨hlen,A,c,rfl⟩:=hk.form
 unfold maxLen at hlen
 cases hop2:(a.op==2) with
 | true =>
  have h2:a.op=2:=by simpa using hop2
  have HFL:Hid ((([⟨#[40]⟩,⟨(T h a i.data.toList).toArray⟩,⟨#[41,46]⟩,t.s]:List ByteArray).map (·.data.toList)).flatten=T (h+1) t i.data.toList):=Lib.hid (by simp [T,stepT,hop,hta,h2])
  have HJ:Hid (∀ w9:World,Calls Tryz.prog 67 #[.slice (some ⟨w9.heap.size,0,none⟩) 4 4] (w9.alloc (.cells #[.string ⟨#[40]⟩,.string ⟨(T h a i.data.toList).toArray⟩,.string ⟨#[41,46]⟩,.string t.s] 9)) fun e w'=>e = .returned (.string ⟨(T (h+1) t i.data.toList).toArray⟩)∧Below w9.heap.size w9 w'):=Lib.hid fun w9=>by
   have:=join_at w9 [⟨#[40]⟩,⟨(T h a i.data.toList).toArray⟩,⟨#[41,46]⟩,t.s] (by simp) (by rw [HFL.out];exact hT)
   rw [HFL.out] at this
   exact this
  rw [hop]
  have hopw : ∀ v:Value,Value.int .i64 t.op=v→v = .int .i64 13:=fun v e=>by rw [← e,hop]
  clear hopw
  obtain ⟨w0,hw0⟩ : ∃ w0,w.alloc (.cells #[.int .i64 13,.string t.s,.int .i64 t.n,.slice A t.l.length c,.int .i64 t.line] 29)=w0:=⟨_,rfl⟩
  obtain ⟨w1,hw1⟩ : ∃ w1,w0.alloc (.cells #[.string i] 9)=w1:=⟨_,rfl⟩
  have bx0:Blk5 w0 w.heap.size 13 t.s t.n (.slice A t.l.length c) t.line:=by rw [← hw0];exact blk5_new _ _ _ _ _ _
  have hb0:Below w.heap.size w w0:=by rw [← hw0];exact (Below.refl _ _).alloc (Nat.le_refl _) _
  have hb1:Below w0.heap.size w0 w1:=by rw [← hw1];exact (Below.refl _ _).alloc (Nat.le_refl _) _
  have hm:w1.cell? ⟨w0.heap.size,0,none⟩=some (.string i):=by rw [← hw1];exact cell_of_row _ _ 0 #[.string i] 9 (0,0) (heap_alloc_new _ _)
  have bx:=bx0.keep hb1
  have HB:=Lib.hid (hb0.trans (hb1.mono hb0.size))
  have hhd:Held w1 w.heap.size w0.heap.size t A c i:=⟨by rw [hop];exact bx,hm⟩
  have HH:=Lib.hid hhd
  have HL:=Lib.hid (hl.below HB.out)
  have HK:=Lib.hid (hk.below HB.out)
  have HAa:=Lib.hid (fun (w9:World) (hb9:Below w1.heap.size w1 w9)=>at_calls w9 w.heap.size w0.heap.size t A c i (HH.out.below hb9) (HL.out.below hb9) d (HK.out.below hb9) 0 a (by rw [hta];rfl) h hca)
  obtain ⟨p,sa,d1,_,rfl,hpa,_,_⟩:=HK.out.at_ (show t.l[0]? = some a by rw [hta];rfl)
  rw [show p.add (0*5)=p from rfl] at hpa
  have a0:=hpa.c0
  have hln:0<t.l.length:=by rw [hta];exact Nat.zero_lt_succ _
  obtain ⟨c0,c1,c2,c3,c4⟩:=bx
  have e1:w1.drew.cell? ⟨w.heap.size,1,none⟩=some (.string t.s):=c1
  clear bx0 hb0 hb1 hl hk hhd hT hop hta HFL hca hpa h2
  generalize T h a i.data.toList=Xa at HJ HAa
  go_enter Tryz.func39,Tryz.ntmps39
  go_wp2
  go_region_held3 (fun w'=>w'.cell? ⟨w.heap.size,1,none⟩=some (.string t.s)) (first
   | exact e1
   | exact f1
   | exact g1
   | go_keep) (first
   | (go_at_call 67;refine (HJ.out _).mono ?_;rintro e wz ⟨rfl,hb⟩;have HBZ:=Lib.hid (HB_v0.out.trans (hb.mono HB_v0.out.size));clear hb;have g1:wz.cell? ⟨w.heap.size,1,none⟩=some (.string t.s):=cell_bel HBZ.out c1)
   | (go_at_call 70;refine (HAa.out w1.drew (Below.refl _ _).drew).mono ?_;rintro e v0 ⟨rfl,hb⟩;have HB_v0:Hid (Below w1.heap.size w1 v0):=Lib.hid ((Below.refl _ _).drew.trans hb);clear hb;have f1:v0.cell? ⟨w.heap.size,1,none⟩=some (.string t.s):=cell_bel HB_v0.out c1))
  all_goals
   go_wp2
   go_ret
   exact ⟨rfl,HB.out.trans (HBZ.out.mono HB.out.size)⟩
 | false =>
  have h2:¬ a.op=2:=by simpa using hop2
  have HFL:Hid ((([⟨(T h a i.data.toList).toArray⟩,⟨#[46]⟩,t.s]:List ByteArray).map (·.data.toList)).flatten=T (h+1) t i.data.toList):=Lib.hid (by simp [T,stepT,hop,hta,h2])
  have HJ:Hid (∀ w9:World,Calls Tryz.prog 67 #[.slice (some ⟨w9.heap.size,0,none⟩) 3 3] (w9.alloc (.cells #[.string ⟨(T h a i.data.toList).toArray⟩,.string ⟨#[46]⟩,.string t.s] 9)) fun e w'=>e = .returned (.string ⟨(T (h+1) t i.data.toList).toArray⟩)∧Below w9.heap.size w9 w'):=Lib.hid fun w9=>by
   have:=join_at w9 [⟨(T h a i.data.toList).toArray⟩,⟨#[46]⟩,t.s] (by simp) (by rw [HFL.out];exact hT)
   rw [HFL.out] at this
   exact this
  rw [hop]
  have hopw : ∀ v:Value,Value.int .i64 t.op=v→v = .int .i64 13:=fun v e=>by rw [← e,hop]
  clear hopw
  obtain ⟨w0,hw0⟩ : ∃ w0,w.alloc (.cells #[.int .i64 13,.string t.s,.int .i64 t.n,.slice A t.l.length c,.int .i64 t.line] 29)=w0:=⟨_,rfl⟩
  obtain ⟨w1,hw1⟩ : ∃ w1,w0.alloc (.cells #[.string i] 9)=w1:=⟨_,rfl⟩
  have bx0:Blk5 w0 w.heap.size 13 t.s t.n (.slice A t.l.length c) t.line:=by rw [← hw0];exact blk5_new _ _ _ _ _ _
  have hb0:Below w.heap.size w w0:=by rw [← hw0];exact (Below.refl _ _).alloc (Nat.le_refl _) _
  have hb1:Below w0.heap.size w0 w1:=by rw [← hw1];exact (Below.refl _ _).alloc (Nat.le_refl _) _
  have hm:w1.cell? ⟨w0.heap.size,0,none⟩=some (.string i):=by rw [← hw1];exact cell_of_row _ _ 0 #[.string i] 9 (0,0) (heap_alloc_new _ _)
  have bx:=bx0.keep hb1
  have HB:=Lib.hid (hb0.trans (hb1.mono hb0.size))
  have hhd:Held w1 w.heap.size w0.heap.size t A c i:=⟨by rw [hop];exact bx,hm⟩
  have HH:=Lib.hid hhd
  have HL:=Lib.hid (hl.below HB.out)
  have HK:=Lib.hid (hk.below HB.out)
  have HAa:=Lib.hid (fun (w9:World) (hb9:Below w1.heap.size w1 w9)=>at_calls w9 w.heap.size w0.heap.size t A c i (HH.out.below hb9) (HL.out.below hb9) d (HK.out.below hb9) 0 a (by rw [hta];rfl) h hca)
  obtain ⟨p,sa,d1,_,rfl,hpa,_,_⟩:=HK.out.at_ (show t.l[0]? = some a by rw [hta];rfl)
  rw [show p.add (0*5)=p from rfl] at hpa
  have a0:=hpa.c0
  have hln:0<t.l.length:=by rw [hta];exact Nat.zero_lt_succ _
  obtain ⟨c0,c1,c2,c3,c4⟩:=bx
  have e1:w1.drew.cell? ⟨w.heap.size,1,none⟩=some (.string t.s):=c1
  clear bx0 hb0 hb1 hl hk hhd hT hop hta HFL hca hpa h2
  generalize T h a i.data.toList=Xa at HJ HAa
  go_enter Tryz.func39,Tryz.ntmps39
  go_wp2
  go_region_held3 (fun w'=>w'.cell? ⟨w.heap.size,1,none⟩=some (.string t.s)) (first
   | exact e1
   | exact f1
   | exact g1
   | go_keep) (first
   | (go_at_call 67;refine (HJ.out _).mono ?_;rintro e wz ⟨rfl,hb⟩;have HBZ:=Lib.hid (HB_v0.out.trans (hb.mono HB_v0.out.size));clear hb;have g1:wz.cell? ⟨w.heap.size,1,none⟩=some (.string t.s):=cell_bel HBZ.out c1)
   | (go_at_call 70;refine (HAa.out w1.drew (Below.refl _ _).drew).mono ?_;rintro e v0 ⟨rfl,hb⟩;have HB_v0:Hid (Below w1.heap.size w1 v0):=Lib.hid ((Below.refl _ _).drew.trans hb);clear hb;have f1:v0.cell? ⟨w.heap.size,1,none⟩=some (.string t.s):=cell_bel HB_v0.out c1))
  all_goals
   go_wp2
   go_ret
   exact ⟨rfl,HB.out.trans (HBZ.out.mono HB.out.size)⟩
end
section
open Go.RowKit Go.Sort
def shId (c:UInt8):Tree:=nd 1 [c] [] 1
def shNum:Tree := .node 2 (bytesA []) 1 [] 1
def shMem:Tree:=nd 13 [98] [shId 97] 1
def shSum:Tree:=nd 18 [43] [shId 99,shNum] 1
def shSet:Tree:=nd 17 [] [shMem,shSum] 1
def shStm:Tree:=nd 31 [] [shSet] 1
theorem sh1_l:sh1P.l=[shStm]:=rfl
theorem sh1_T : ∀ u,u ∈ sh1P.l→StmtT 99 u ⟨#[]⟩:=by
 intro u hu
 rw [sh1_l,List.mem_singleton] at hu
 subst hu
 have ha:ExprT 96 (shId 97) ⟨#[]⟩:=text_1 95 _ _ rfl
 have hc:ExprT 96 (shId 99) ⟨#[]⟩:=text_1 95 _ _ rfl
 have hn:ExprT 96 shNum ⟨#[]⟩:=text_2 95 _ _ rfl (by decide) (by decide)
 have hm:ExprT 97 shMem ⟨#[]⟩:=text_13 96 shMem (shId 97) _ rfl rfl ha (of_decide_eq_true (by kernel_rfl))
 have hs:ExprT 97 shSum ⟨#[]⟩:=text_18 96 shSum (shId 99) shNum _ rfl rfl hc hn (of_decide_eq_true (by kernel_rfl))
 have ht:ExprT 98 shSet ⟨#[]⟩:=text_17 97 shSet shMem shSum _ rfl rfl hm hs (of_decide_eq_true (by kernel_rfl))
 exact stext_31 98 shStm shSet _ rfl rfl ht (of_decide_eq_true (by kernel_rfl))
end
section
open Go.RowKit Go.Sort
theorem sh1_right:rightB sh1P=true:=by kernel_rfl
theorem sh1_lines:linesP sh1P=[40,97,46,98,32,61,32,40,99,32,43,32,49,41,41,59,10]:=by kernel_rfl
theorem below_alc {w w':World} {b:Nat} (h:Below b w w') (hb:b≤w'.heap.size) (o:Obj):Below b w (w'.alloc o):=h.alloc hb o
set_option maxRecDepth 100000 in
set_option maxHeartbeats 4000000 in
theorem shown4_calls (w:World) (hr:Ready w):Calls Tryz.prog 9 #[] w fun e w'=>e = .returned (.bool true)∧Below w.heap.size w w':=by
 have HR:=Lib.hid hr
 have HA:=Lib.hid (rtoks_calls w ⟨#[97,46,98,32,61,32,99,32,43,32,49]⟩ (by decide) 20 sh1T sh1_lex (by decide))
 have HB:=Lib.hid (fun w9=>rtoks_calls w9 ⟨#[97,10,119,105,116,104,32,40,98,41,32,99]⟩ (by decide) 20 sh2T sh2_lex (by decide))
 have HC:=Lib.hid (fun w9=>rtoks_calls w9 ⟨#[47,97,47]⟩ (by decide) 20 sh3T sh3_lex (by decide))
 clear hr
 go_enter Tryz.func9,Tryz.ntmps9
 go_wp2_with fail
 refine HA.out.mono ?_
 rintro e w1 ⟨v1,rfl,ht1,hb1⟩
 have HB1:=Lib.hid hb1
 have HP1:=Lib.hid (parse_calls 60 sh1T v1 w1 ht1 (HR.out.below hb1) _ sh1_prog)
 clear ht1 hb1
 go_wp2_with fail
 refine HP1.out.mono ?_
 rintro e w2 ⟨d2,A2,c2,rfl,hok2,htr2,hb2⟩
 simp only [sh1_right,if_true]
 have hz2:=hb2.size
 have HB2:=Lib.hid (HB1.out.trans (hb2.mono HB1.out.size))
 have HK2:=Lib.hid htr2.kids
 have HOK:=Lib.hid hok2
 have hbx:Below w2.heap.size w2 (w2.alloc (.cells #[.int .i64 sh1P.op,.string sh1P.s,.int .i64 sh1P.n,.slice A2 sh1P.l.length c2,.int .i64 sh1P.line] 29)):=(Below.refl _ _).alloc (Nat.le_refl _) _
 have HB3:=Lib.hid (HB2.out.trans (hbx.mono HB2.out.size))
 have HK3:=Lib.hid (HK2.out.below hbx)
 have HSH:=Lib.hid (show_calls sh1P (fun _=>sh1_T) (fun _=>by rw [sh1_lines];decide) d2 _ _ ((HR.out.below HB3.out).laid _ (Below.refl _ _)) HK3.out HOK.out)
 clear htr2 hok2 hb2 hbx
 have hbk:Blk (w2.alloc (.cells #[.int .i64 sh1P.op,.string sh1P.s,.int .i64 sh1P.n,.slice A2 sh1P.l.length c2,.int .i64 sh1P.line] 29)) w2.heap.size 29 #[.int .i64 sh1P.op,.string sh1P.s,.int .i64 sh1P.n,.slice A2 sh1P.l.length c2,.int .i64 sh1P.line]:=Blk.new w2 _ _
 obtain ⟨⟨a0,a1,a2,a3,a4⟩,-⟩:=hbk.five
 clear hbk
 go_wp2_with fail
 refine HSH.out.mono ?_
 rintro e w4 ⟨rfl,hb4⟩
 rw [sh1_right,if_pos rfl,sh1_lines]
 have HB4:=Lib.hid (HB3.out.trans (hb4.mono HB3.out.size))
 clear hb4 a0 a1 a2 a3 a4
 go_wp2_with fail
 refine (HB.out w4).mono ?_
 rintro e w5 ⟨v5,rfl,ht5,hb5⟩
 have HB5:=Lib.hid (HB4.out.trans (hb5.mono HB4.out.size))
 have HP5:=Lib.hid (parse_calls 60 sh2T v5 w5 ht5 (HR.out.below HB5.out) _ sh2_prog)
 clear ht5 hb5
 go_wp2_with fail
 refine HP5.out.mono ?_
 rintro e w6 ⟨rfl,hb6⟩
 have HB6:=Lib.hid (HB5.out.trans (hb6.mono HB5.out.size))
 have HB7:=Lib.hid (HB6.out.alloc HB6.out.size (.cells #[.int .i64 0,.string ⟨#[]⟩,.int .i64 0,.slice none 0 0,.int .i64 0] 29))
 clear hb6
 go_wp2_with fail
 refine (HC.out _).mono ?_
 rintro e w8 ⟨v8,rfl,ht8,hb8⟩
 have HB8:=Lib.hid (HB7.out.trans (hb8.mono HB7.out.size))
 obtain ⟨k9,hk9⟩:=sh3_sole
 have HP9:=Lib.hid (parseExpr_calls 60 sh3T v8 w8 ht8 (HR.out.below HB8.out) _ hk9)
 clear ht8 hb8 hk9
 go_wp2_with fail
 refine HP9.out.mono ?_
 rintro e w9 ⟨rfl,hb9⟩
 have HB9:=Lib.hid (HB8.out.trans (hb9.mono HB8.out.size))
 have HBX:=Lib.hid (HB9.out.alloc HB9.out.size (.cells #[.int .i64 0,.string ⟨#[]⟩,.int .i64 0,.slice none 0 0,.int .i64 0] 29))
 clear hb9
 go_wp2
 go_ret
 exact ⟨rfl,HBX.out⟩
end
section
open Go.RowKit
theorem lexL_len : ∀ (f:Nat) (x:Sc),(lexL f x).1.length≤x.s.length
 | 0,x=>by simp [lexL]
 | f+1,x=>by
  cases hb:blankN x.s with
  | none=>rw [lexL_bad hb];simp
  | some n =>
   cases n with
   | succ n =>
    rw [lexL_blank hb]
    have:=lexL_len f (passF x (n+1))
    rw [passF_len] at this
    omega
   | zero =>
    by_cases hs:x.s=[]
    ·rw [lexL_end hs];simp
    ·by_cases he:(tokenF x.s).2.2=0
     ·obtain ⟨h1,h2,_⟩:=token_ok he
      have:=lexL_len f { passF x (tokenF x.s).2.1 with nl:=false }
      have h3:({ passF x (tokenF x.s).2.1 with nl:=false }:Sc).s.length=x.s.length-(tokenF x.s).2.1:=passF_len x _
      rw [h3] at this
      rw [lexL_tok hb hs he,List.length_cons]
      omega
     ·rw [lexL_err hb hs he];simp
theorem lexF_len {s:List UInt8} (h:s.length≤20000):(lexF s).1.length≤s.length:=by
 have h1:=lexL_len s.length ⟨s,1,false⟩
 rw [lexF_eq h]
 cases hr:lexL s.length ⟨s,1,false⟩ with
 | mk l e =>
  rw [hr] at h1
  cases e with
  | none=>exact h1
  | some p=>simp
end
end Go.Proofs.YtjjdmiaonkailaaGreatDoor
