/-
  Walks and plain words (texts Wt3, Wt4, Wm). No condition beyond those that each theorem states.
-/
import Derived.Test.YtfipdjlalfpbnaaGreatDoorA20
import Derived.Test.YtfipdjlalfpbnaaGreatDoorA21
namespace Go.Proofs.YtfipdjlalfpbnaaGreatDoor
section
open Go.Proofs.Tryz
set_option maxHeartbeats 12800000
set_option maxRecDepth 100000
open Go.RowKit Go.Deep

theorem zL6(w:World)(s r c:Nat)(x4 x5 x6 x7 x8 x9 x10 x11 x12:ByteArray)(hF:(Mg.mk 3 s r c x4 x5 x6 x7 x8 x9 x10 x11 x12).Fine) :
  Calls prog 56 #[.agg #[.int .i64 3,.int .u32 (s:Nat),.int .u32 (r:Nat),.int .u64 (c:Nat),.string x4,.string x5,.string x6,.string x7,.string x8,.string x9,.string x10,.string x11,.string x12]] w (zAp (Mg.mk 3 s r c x4 x5 x6 x7 x8 x9 x10 x11 x12) w):=by
 have hst:=fun(W:World) (a:Addr) (fn:Fn) (c:Array Value)=>(run_store prog W a (.func fn #[] c) .plain rfl:(store a (.func fn #[] c)).run prog W=stored prog W a (.func fn #[] c) .plain)
 have hsn:=fun(W:World) (a:Addr)=>(run_store prog W a .nilFunc .plain rfl:(store a .nilFunc).run prog W=stored prog W a .nilFunc .plain)
 have HP:=zAA (fun W=>zKx W s r c x4 x5 x6 x7 x8 x9 x10 x11 x12 hF)
 unfold zBw at HP
 obtain⟨hs,hr,hc,hx4,hx5,hx6,hx7,hx8,hx9,hx10,hx11,hx12⟩:=hF
 simp only at hs hr hc hx4 hx5 hx6 hx7 hx8 hx9 hx10 hx11 hx12
 have HMB:=zAA (Blk.new w 25 #[.int .i64 3,.int .u32 (s:Nat),.int .u32 (r:Nat),.int .u64 (c:Nat),.string x4,.string x5,.string x6,.string x7,.string x8,.string x9,.string x10,.string x11,.string x12])
 have HO:=zAA ((Only.refl [] w).alloc (.cells #[.int .i64 3,.int .u32 (s:Nat),.int .u32 (r:Nat),.int .u64 (c:Nat),.string x4,.string x5,.string x6,.string x7,.string x8,.string x9,.string x10,.string x11,.string x12] 25))
 have m0:=HMB.out.cell 0;have m1:=HMB.out.cell 1;have m2:=HMB.out.cell 2;have m3:=HMB.out.cell 3;have m4:=HMB.out.cell 4;have m5:=HMB.out.cell 5;have m6:=HMB.out.cell 6;have m7:=HMB.out.cell 7;have m8:=HMB.out.cell 8;have m9:=HMB.out.cell 9;have m10:=HMB.out.cell 10;have m11:=HMB.out.cell 11;have m12:=HMB.out.cell 12;simp at m0 m1 m2 m3 m4 m5 m6 m7 m8 m9 m10 m11 m12
 cases hB:zAG (Mg.mk 3 s r c x4 x5 x6 x7 x8 x9 x10 x11 x12)
 case false =>
  rw[hB]at HP
  have HV:=zAA hB
  clear hB
  go_enter func56,ntmps56
  go_wp2_with (go_at_call 108;refine(HP.out _).mono ?_;rintro e w1 ⟨fv,rfl,ho,_⟩;replace HO:=zAA (HO.out.trans ho);clear ho)
  go_ret
  exact zDg HV.out HO.out
 rw[hB]at HP
 have HV:=zAA hB
 have hz8:x8.size<=65535:=zBX (by have h:=hB;simp[zAG,zAU]at h;simp[h])
 have hz9:x9.size<=65535:=zBX (by have h:=hB;simp[zAG,zAU]at h;simp[h])
 clear hB
 obtain⟨is,his,hs0,hs1,hs2⟩:=info_parts (show(prog.info? 9).map (fun i=>(i.zero,i.size,i.bytes))=some (some (.string ByteArray.empty),1,16)by kernel_rfl)
 go_enter func56,ntmps56
 go_upto_region 6 with (go_at_call 108;refine(HP.out _).mono ?_;rintro e w1 ⟨fv,rfl,ho,hz⟩;obtain⟨g,b1,b2,rfl,hg,hb1,hb2,hrow,hx1,hx2⟩:=hz (by trivial);rw[World.size_alloc]at hg hb1 hb2;have HROW:=zAA hrow;replace HMB:=zAA (HMB.out.only ho (by simp));replace HO:=zAA (HO.out.trans ho);clear hg hb1 hb2 hrow hx1 hx2 ho hz m0 m1 m2 m3 m4 m5 m6 m7 m8 m9 m10 m11 m12)
 have HD:=zAA (show w.heap.size<w1.heap.size∧g<w1.heap.size from⟨HMB.out.lt,HROW.out.lt⟩)
 have HOW:=zAA (show w1.ownsRow w1.heap.size 9 1 (.slice none 0 0) 0 (zEz [])from⟨rfl,.inl ⟨rfl,rfl⟩⟩)
 have HBV:=zAA (Nat.le_refl w1.heap.size)
 obtain⟨B0,hB0⟩:∃B0,B0=w1.heap.size:=⟨_,rfl⟩
 have HBV:=zAA (show B0<=w1.heap.size by omega)
 rw[<-hB0]at HD HOW
 clear hB0
 obtain⟨v0,rfl⟩:∃v0,v0=w1:=⟨w1,rfl⟩
 refine wp_loop_rounds 4 ?_
 rw[rounds_succ]
 have a0:=HROW.out.cell 0;have a1:=HROW.out.cell 1;have a2:=HROW.out.cell 2;have a3:=HROW.out.cell 3
 simp[zGN,zBd,zB8]at a0 a1 a2 a3
 go_upto_region 8 with fail
 have HF:=zAA (Blk.new v0 155 #[.int .i64 4,.func (.func 169) #[] #[.pointer (some ⟨b2,0,none⟩)],.func (.func 170) #[] #[.pointer (some ⟨b2,0,none⟩)],.nilFunc])
 replace HBV:=zAA (show B0<=(v0.alloc (.cells #[.int .i64 4,.func (.func 169) #[] #[.pointer (some ⟨b2,0,none⟩)],.func (.func 170) #[] #[.pointer (some ⟨b2,0,none⟩)],.nilFunc] 155)).heap.size by have:=HBV.out;simp;omega)
 replace HMB:=zAA (HMB.out.alloc (.cells #[.int .i64 4,.func (.func 169) #[] #[.pointer (some ⟨b2,0,none⟩)],.func (.func 170) #[] #[.pointer (some ⟨b2,0,none⟩)],.nilFunc] 155))
 replace HROW:=zAA (HROW.out.alloc (.cells #[.int .i64 4,.func (.func 169) #[] #[.pointer (some ⟨b2,0,none⟩)],.func (.func 170) #[] #[.pointer (some ⟨b2,0,none⟩)],.nilFunc] 155))
 replace HO:=zAA (HO.out.alloc (.cells #[.int .i64 4,.func (.func 169) #[] #[.pointer (some ⟨b2,0,none⟩)],.func (.func 170) #[] #[.pointer (some ⟨b2,0,none⟩)],.nilFunc] 155))
 replace HOW:=zAA (World.ownsRow.alloc HOW.out (.cells #[.int .i64 4,.func (.func 169) #[] #[.pointer (some ⟨b2,0,none⟩)],.func (.func 170) #[] #[.pointer (some ⟨b2,0,none⟩)],.nilFunc] 155))
 generalize (v0.alloc (.cells #[.int .i64 4,.func (.func 169) #[] #[.pointer (some ⟨b2,0,none⟩)],.func (.func 170) #[] #[.pointer (some ⟨b2,0,none⟩)],.nilFunc] 155))=u0 at *
 have f0:=HF.out.cell 0;have f1:=HF.out.cell 1;have f2:=HF.out.cell 2;have f3:=HF.out.cell 3;simp at f0 f1 f2 f3
 have mi:=HMB.out.cell 2;simp at mi
 clear a0 a1 a2 a3
 go_wp2_with fail
 obtain⟨v1,rfl⟩:∃v,v=u0:=⟨u0,rfl⟩
 clear f0 f1 f2 f3 mi HF
 rw[rounds_succ]
 have a0:=HROW.out.cell 4;have a1:=HROW.out.cell 5;have a2:=HROW.out.cell 6;have a3:=HROW.out.cell 7
 simp[zGN,zBd,zB8]at a0 a1 a2 a3
 go_upto_region 8 with fail
 have HF:=zAA (Blk.new v1 155 #[.int .i64 0,.nilFunc,.nilFunc,.func (.func 158) #[] #[]])
 replace HBV:=zAA (show B0<=(v1.alloc (.cells #[.int .i64 0,.nilFunc,.nilFunc,.func (.func 158) #[] #[]] 155)).heap.size by have:=HBV.out;simp;omega)
 replace HMB:=zAA (HMB.out.alloc (.cells #[.int .i64 0,.nilFunc,.nilFunc,.func (.func 158) #[] #[]] 155))
 replace HROW:=zAA (HROW.out.alloc (.cells #[.int .i64 0,.nilFunc,.nilFunc,.func (.func 158) #[] #[]] 155))
 replace HO:=zAA (HO.out.alloc (.cells #[.int .i64 0,.nilFunc,.nilFunc,.func (.func 158) #[] #[]] 155))
 replace HOW:=zAA (World.ownsRow.alloc HOW.out (.cells #[.int .i64 0,.nilFunc,.nilFunc,.func (.func 158) #[] #[]] 155))
 generalize (v1.alloc (.cells #[.int .i64 0,.nilFunc,.nilFunc,.func (.func 158) #[] #[]] 155))=u1 at *
 have f0:=HF.out.cell 0;have f1:=HF.out.cell 1;have f2:=HF.out.cell 2;have f3:=HF.out.cell 3;simp at f0 f1 f2 f3
 have mi:=HMB.out.cell 8;simp at mi
 clear a0 a1 a2 a3
 have HRN:=zAA (zAi u1 9 (.string x8) (u1.heap.size+1) (Nat.lt_succ_self _))
 replace HMB:=zAA (HMB.out.alloc (.cells #[.string x8] 9))
 replace HROW:=zAA (HROW.out.alloc (.cells #[.string x8] 9))
 replace HO:=zAA (HO.out.alloc (.cells #[.string x8] 9))
 replace HOW:=zAA (World.ownsRow.alloc HOW.out (.cells #[.string x8] 9))
 replace HBV:=zAA (show B0<=(u1.alloc (.cells #[.string x8] 9)).heap.size by have:=HBV.out;simp;omega)
 go_wp2_with (first|(go_at_call 158;refine(zJd _ _).mono ?_;rintro e w4 ⟨rfl,rfl⟩)|(at_builtin;refine zAR _ rfl (.tmp 24) (.tmp 30) 75 rfl B0 9 is (.string ByteArray.empty) 1 16 underlying75 his hs0 hs1 hs2 rfl (by decide) _ 0 _ rfl HOW.out _ _ 1 1 [.string x8] rfl HRN.out (by simp[Value.oneCell']) (by unfold maxLen;omega) (by omega) HBV.out ?_;intro vv v2 hown1 hg1 _;have hbel:=zBI hg1 (fun jj hjj=>zAP HOW.out hjj) HBV.out;replace HOW:=zAA (show v2.ownsRow B0 9 1 vv 1 (zEz [x8])from hown1);replace HMB:=zAA (HMB.out.below hbel (by have:=HD.out;omega));replace HROW:=zAA (HROW.out.below hbel (by have:=HD.out;omega));replace HO:=zAA (zA2 HO.out hbel (by have:=HD.out;omega));replace HBV:=zAA (Nat.le_trans HBV.out hbel.size);clear hown1 hg1 hbel))
 clear f0 f1 f2 f3 mi HF HRN
 rw[rounds_succ]
 have a0:=HROW.out.cell 8;have a1:=HROW.out.cell 9;have a2:=HROW.out.cell 10;have a3:=HROW.out.cell 11
 simp[zGN,zBd,zB8]at a0 a1 a2 a3
 go_upto_region 8 with fail
 have HF:=zAA (Blk.new v2 155 #[.int .i64 0,.nilFunc,.nilFunc,.func (.func 159) #[] #[]])
 replace HBV:=zAA (show B0<=(v2.alloc (.cells #[.int .i64 0,.nilFunc,.nilFunc,.func (.func 159) #[] #[]] 155)).heap.size by have:=HBV.out;simp;omega)
 replace HMB:=zAA (HMB.out.alloc (.cells #[.int .i64 0,.nilFunc,.nilFunc,.func (.func 159) #[] #[]] 155))
 replace HROW:=zAA (HROW.out.alloc (.cells #[.int .i64 0,.nilFunc,.nilFunc,.func (.func 159) #[] #[]] 155))
 replace HO:=zAA (HO.out.alloc (.cells #[.int .i64 0,.nilFunc,.nilFunc,.func (.func 159) #[] #[]] 155))
 replace HOW:=zAA (World.ownsRow.alloc HOW.out (.cells #[.int .i64 0,.nilFunc,.nilFunc,.func (.func 159) #[] #[]] 155))
 generalize (v2.alloc (.cells #[.int .i64 0,.nilFunc,.nilFunc,.func (.func 159) #[] #[]] 155))=u2 at *
 have f0:=HF.out.cell 0;have f1:=HF.out.cell 1;have f2:=HF.out.cell 2;have f3:=HF.out.cell 3;simp at f0 f1 f2 f3
 have mi:=HMB.out.cell 9;simp at mi
 clear a0 a1 a2 a3
 obtain⟨A2,c2,rfl,_,_⟩:=zAh HOW.out
 have HRN:=zAA (zAi u2 9 (.string x9) (u2.heap.size+1) (Nat.lt_succ_self _))
 replace HMB:=zAA (HMB.out.alloc (.cells #[.string x9] 9))
 replace HROW:=zAA (HROW.out.alloc (.cells #[.string x9] 9))
 replace HO:=zAA (HO.out.alloc (.cells #[.string x9] 9))
 replace HOW:=zAA (World.ownsRow.alloc HOW.out (.cells #[.string x9] 9))
 replace HBV:=zAA (show B0<=(u2.alloc (.cells #[.string x9] 9)).heap.size by have:=HBV.out;simp;omega)
 go_wp2_with (first|(go_at_call 159;refine(zJe _ _).mono ?_;rintro e w4 ⟨rfl,rfl⟩)|(at_builtin;refine zAR _ rfl (.tmp 24) (.tmp 30) 75 rfl B0 9 is (.string ByteArray.empty) 1 16 underlying75 his hs0 hs1 hs2 rfl (by decide) _ 1 _ rfl HOW.out _ _ 1 1 [.string x9] rfl HRN.out (by simp[Value.oneCell']) (by unfold maxLen;omega) (by omega) HBV.out ?_;intro vv v3 hown1 hg1 _;have hbel:=zBI hg1 (fun jj hjj=>zAP HOW.out hjj) HBV.out;replace HOW:=zAA (show v3.ownsRow B0 9 1 vv 2 (zEz [x8,x9])from hown1);replace HMB:=zAA (HMB.out.below hbel (by have:=HD.out;omega));replace HROW:=zAA (HROW.out.below hbel (by have:=HD.out;omega));replace HO:=zAA (zA2 HO.out hbel (by have:=HD.out;omega));replace HBV:=zAA (Nat.le_trans HBV.out hbel.size);clear hown1 hg1 hbel))
 clear f0 f1 f2 f3 mi HF HRN
 rw[rounds_succ]
 obtain⟨Az,cz,rfl,_,_⟩:=zAh HOW.out
 go_wp2_with fail
 go_ret
 exact zDh HV.out rfl HO.out HOW.out
end
section
open Go.Proofs.Tryz
set_option maxHeartbeats 12800000
set_option maxRecDepth 100000
open Go.RowKit Go.Deep

theorem zL7(w:World)(s r c:Nat)(x4 x5 x6 x7 x8 x9 x10 x11 x12:ByteArray)(hF:(Mg.mk 4 s r c x4 x5 x6 x7 x8 x9 x10 x11 x12).Fine) :
  Calls prog 56 #[.agg #[.int .i64 4,.int .u32 (s:Nat),.int .u32 (r:Nat),.int .u64 (c:Nat),.string x4,.string x5,.string x6,.string x7,.string x8,.string x9,.string x10,.string x11,.string x12]] w (zAp (Mg.mk 4 s r c x4 x5 x6 x7 x8 x9 x10 x11 x12) w):=by
 have hst:=fun(W:World) (a:Addr) (fn:Fn) (c:Array Value)=>(run_store prog W a (.func fn #[] c) .plain rfl:(store a (.func fn #[] c)).run prog W=stored prog W a (.func fn #[] c) .plain)
 have hsn:=fun(W:World) (a:Addr)=>(run_store prog W a .nilFunc .plain rfl:(store a .nilFunc).run prog W=stored prog W a .nilFunc .plain)
 have HP:=zAA (fun W=>zKy W s r c x4 x5 x6 x7 x8 x9 x10 x11 x12 hF)
 unfold zBw at HP
 obtain⟨hs,hr,hc,hx4,hx5,hx6,hx7,hx8,hx9,hx10,hx11,hx12⟩:=hF
 simp only at hs hr hc hx4 hx5 hx6 hx7 hx8 hx9 hx10 hx11 hx12
 have HMB:=zAA (Blk.new w 25 #[.int .i64 4,.int .u32 (s:Nat),.int .u32 (r:Nat),.int .u64 (c:Nat),.string x4,.string x5,.string x6,.string x7,.string x8,.string x9,.string x10,.string x11,.string x12])
 have HO:=zAA ((Only.refl [] w).alloc (.cells #[.int .i64 4,.int .u32 (s:Nat),.int .u32 (r:Nat),.int .u64 (c:Nat),.string x4,.string x5,.string x6,.string x7,.string x8,.string x9,.string x10,.string x11,.string x12] 25))
 have m0:=HMB.out.cell 0;have m1:=HMB.out.cell 1;have m2:=HMB.out.cell 2;have m3:=HMB.out.cell 3;have m4:=HMB.out.cell 4;have m5:=HMB.out.cell 5;have m6:=HMB.out.cell 6;have m7:=HMB.out.cell 7;have m8:=HMB.out.cell 8;have m9:=HMB.out.cell 9;have m10:=HMB.out.cell 10;have m11:=HMB.out.cell 11;have m12:=HMB.out.cell 12;simp at m0 m1 m2 m3 m4 m5 m6 m7 m8 m9 m10 m11 m12
 cases hB:zAG (Mg.mk 4 s r c x4 x5 x6 x7 x8 x9 x10 x11 x12)
 case false =>
  rw[hB]at HP
  have HV:=zAA hB
  clear hB
  go_enter func56,ntmps56
  go_wp2_with (go_at_call 108;refine(HP.out _).mono ?_;rintro e w1 ⟨fv,rfl,ho,_⟩;replace HO:=zAA (HO.out.trans ho);clear ho)
  go_ret
  exact zDg HV.out HO.out
 rw[hB]at HP
 have HV:=zAA hB
 have hz10:x10.size<=65535:=zBX (by have h:=hB;simp[zAG,zAU]at h;simp[h])
 clear hB
 obtain⟨is,his,hs0,hs1,hs2⟩:=info_parts (show(prog.info? 9).map (fun i=>(i.zero,i.size,i.bytes))=some (some (.string ByteArray.empty),1,16)by kernel_rfl)
 go_enter func56,ntmps56
 go_upto_region 6 with (go_at_call 108;refine(HP.out _).mono ?_;rintro e w1 ⟨fv,rfl,ho,hz⟩;obtain⟨g,b1,b2,rfl,hg,hb1,hb2,hrow,hx1,hx2⟩:=hz (by trivial);rw[World.size_alloc]at hg hb1 hb2;have HROW:=zAA hrow;replace HMB:=zAA (HMB.out.only ho (by simp));replace HO:=zAA (HO.out.trans ho);clear hg hb1 hb2 hrow hx1 hx2 ho hz m0 m1 m2 m3 m4 m5 m6 m7 m8 m9 m10 m11 m12)
 have HD:=zAA (show w.heap.size<w1.heap.size∧g<w1.heap.size from⟨HMB.out.lt,HROW.out.lt⟩)
 have HOW:=zAA (show w1.ownsRow w1.heap.size 9 1 (.slice none 0 0) 0 (zEz [])from⟨rfl,.inl ⟨rfl,rfl⟩⟩)
 have HBV:=zAA (Nat.le_refl w1.heap.size)
 obtain⟨B0,hB0⟩:∃B0,B0=w1.heap.size:=⟨_,rfl⟩
 have HBV:=zAA (show B0<=w1.heap.size by omega)
 rw[<-hB0]at HD HOW
 clear hB0
 obtain⟨v0,rfl⟩:∃v0,v0=w1:=⟨w1,rfl⟩
 refine wp_loop_rounds 4 ?_
 rw[rounds_succ]
 have a0:=HROW.out.cell 0;have a1:=HROW.out.cell 1;have a2:=HROW.out.cell 2;have a3:=HROW.out.cell 3
 simp[zGO,zBd,zB8,zL3]at a0 a1 a2 a3
 go_upto_region 8 with fail
 have HF:=zAA (Blk.new v0 155 #[.int .i64 4,.func (.func 169) #[] #[.pointer (some ⟨b2,0,none⟩)],.func (.func 170) #[] #[.pointer (some ⟨b2,0,none⟩)],.nilFunc])
 replace HBV:=zAA (show B0<=(v0.alloc (.cells #[.int .i64 4,.func (.func 169) #[] #[.pointer (some ⟨b2,0,none⟩)],.func (.func 170) #[] #[.pointer (some ⟨b2,0,none⟩)],.nilFunc] 155)).heap.size by have:=HBV.out;simp;omega)
 replace HMB:=zAA (HMB.out.alloc (.cells #[.int .i64 4,.func (.func 169) #[] #[.pointer (some ⟨b2,0,none⟩)],.func (.func 170) #[] #[.pointer (some ⟨b2,0,none⟩)],.nilFunc] 155))
 replace HROW:=zAA (HROW.out.alloc (.cells #[.int .i64 4,.func (.func 169) #[] #[.pointer (some ⟨b2,0,none⟩)],.func (.func 170) #[] #[.pointer (some ⟨b2,0,none⟩)],.nilFunc] 155))
 replace HO:=zAA (HO.out.alloc (.cells #[.int .i64 4,.func (.func 169) #[] #[.pointer (some ⟨b2,0,none⟩)],.func (.func 170) #[] #[.pointer (some ⟨b2,0,none⟩)],.nilFunc] 155))
 replace HOW:=zAA (World.ownsRow.alloc HOW.out (.cells #[.int .i64 4,.func (.func 169) #[] #[.pointer (some ⟨b2,0,none⟩)],.func (.func 170) #[] #[.pointer (some ⟨b2,0,none⟩)],.nilFunc] 155))
 generalize (v0.alloc (.cells #[.int .i64 4,.func (.func 169) #[] #[.pointer (some ⟨b2,0,none⟩)],.func (.func 170) #[] #[.pointer (some ⟨b2,0,none⟩)],.nilFunc] 155))=u0 at *
 have f0:=HF.out.cell 0;have f1:=HF.out.cell 1;have f2:=HF.out.cell 2;have f3:=HF.out.cell 3;simp at f0 f1 f2 f3
 have mi:=HMB.out.cell 2;simp at mi
 clear a0 a1 a2 a3
 go_wp2_with fail
 obtain⟨v1,rfl⟩:∃v,v=u0:=⟨u0,rfl⟩
 clear f0 f1 f2 f3 mi HF
 rw[rounds_succ]
 have a0:=HROW.out.cell 4;have a1:=HROW.out.cell 5;have a2:=HROW.out.cell 6;have a3:=HROW.out.cell 7
 simp[zGO,zBd,zB8,zL3]at a0 a1 a2 a3
 go_upto_region 8 with fail
 have HF:=zAA (Blk.new v1 155 #[.int .i64 8,.func (.func 160) #[] #[],.func (.func 161) #[] #[],.nilFunc])
 replace HBV:=zAA (show B0<=(v1.alloc (.cells #[.int .i64 8,.func (.func 160) #[] #[],.func (.func 161) #[] #[],.nilFunc] 155)).heap.size by have:=HBV.out;simp;omega)
 replace HMB:=zAA (HMB.out.alloc (.cells #[.int .i64 8,.func (.func 160) #[] #[],.func (.func 161) #[] #[],.nilFunc] 155))
 replace HROW:=zAA (HROW.out.alloc (.cells #[.int .i64 8,.func (.func 160) #[] #[],.func (.func 161) #[] #[],.nilFunc] 155))
 replace HO:=zAA (HO.out.alloc (.cells #[.int .i64 8,.func (.func 160) #[] #[],.func (.func 161) #[] #[],.nilFunc] 155))
 replace HOW:=zAA (World.ownsRow.alloc HOW.out (.cells #[.int .i64 8,.func (.func 160) #[] #[],.func (.func 161) #[] #[],.nilFunc] 155))
 generalize (v1.alloc (.cells #[.int .i64 8,.func (.func 160) #[] #[],.func (.func 161) #[] #[],.nilFunc] 155))=u1 at *
 have f0:=HF.out.cell 0;have f1:=HF.out.cell 1;have f2:=HF.out.cell 2;have f3:=HF.out.cell 3;simp at f0 f1 f2 f3
 have mi:=HMB.out.cell 3;simp at mi
 clear a0 a1 a2 a3
 go_wp2_with fail
 obtain⟨v2,rfl⟩:∃v,v=u1:=⟨u1,rfl⟩
 clear f0 f1 f2 f3 mi HF
 rw[rounds_succ]
 have a0:=HROW.out.cell 8;have a1:=HROW.out.cell 9;have a2:=HROW.out.cell 10;have a3:=HROW.out.cell 11
 simp[zGO,zBd,zB8,zL3]at a0 a1 a2 a3
 go_upto_region 8 with fail
 have HF:=zAA (Blk.new v2 155 #[.int .i64 0,.nilFunc,.nilFunc,.func (.func 162) #[] #[]])
 replace HBV:=zAA (show B0<=(v2.alloc (.cells #[.int .i64 0,.nilFunc,.nilFunc,.func (.func 162) #[] #[]] 155)).heap.size by have:=HBV.out;simp;omega)
 replace HMB:=zAA (HMB.out.alloc (.cells #[.int .i64 0,.nilFunc,.nilFunc,.func (.func 162) #[] #[]] 155))
 replace HROW:=zAA (HROW.out.alloc (.cells #[.int .i64 0,.nilFunc,.nilFunc,.func (.func 162) #[] #[]] 155))
 replace HO:=zAA (HO.out.alloc (.cells #[.int .i64 0,.nilFunc,.nilFunc,.func (.func 162) #[] #[]] 155))
 replace HOW:=zAA (World.ownsRow.alloc HOW.out (.cells #[.int .i64 0,.nilFunc,.nilFunc,.func (.func 162) #[] #[]] 155))
 generalize (v2.alloc (.cells #[.int .i64 0,.nilFunc,.nilFunc,.func (.func 162) #[] #[]] 155))=u2 at *
 have f0:=HF.out.cell 0;have f1:=HF.out.cell 1;have f2:=HF.out.cell 2;have f3:=HF.out.cell 3;simp at f0 f1 f2 f3
 have mi:=HMB.out.cell 10;simp at mi
 clear a0 a1 a2 a3
 have HRN:=zAA (zAi u2 9 (.string x10) (u2.heap.size+1) (Nat.lt_succ_self _))
 replace HMB:=zAA (HMB.out.alloc (.cells #[.string x10] 9))
 replace HROW:=zAA (HROW.out.alloc (.cells #[.string x10] 9))
 replace HO:=zAA (HO.out.alloc (.cells #[.string x10] 9))
 replace HOW:=zAA (World.ownsRow.alloc HOW.out (.cells #[.string x10] 9))
 replace HBV:=zAA (show B0<=(u2.alloc (.cells #[.string x10] 9)).heap.size by have:=HBV.out;simp;omega)
 go_wp2_with (first|(go_at_call 162;refine(zGw _ _).mono ?_;rintro e w4 ⟨rfl,rfl⟩)|(at_builtin;refine zAR _ rfl (.tmp 24) (.tmp 30) 75 rfl B0 9 is (.string ByteArray.empty) 1 16 underlying75 his hs0 hs1 hs2 rfl (by decide) _ 0 _ rfl HOW.out _ _ 1 1 [.string x10] rfl HRN.out (by simp[Value.oneCell']) (by unfold maxLen;omega) (by omega) HBV.out ?_;intro vv v3 hown1 hg1 _;have hbel:=zBI hg1 (fun jj hjj=>zAP HOW.out hjj) HBV.out;replace HOW:=zAA (show v3.ownsRow B0 9 1 vv 1 (zEz [x10])from hown1);replace HMB:=zAA (HMB.out.below hbel (by have:=HD.out;omega));replace HROW:=zAA (HROW.out.below hbel (by have:=HD.out;omega));replace HO:=zAA (zA2 HO.out hbel (by have:=HD.out;omega));replace HBV:=zAA (Nat.le_trans HBV.out hbel.size);clear hown1 hg1 hbel))
 clear f0 f1 f2 f3 mi HF HRN
 rw[rounds_succ]
 obtain⟨Az,cz,rfl,_,_⟩:=zAh HOW.out
 go_wp2_with fail
 go_ret
 exact zDh HV.out rfl HO.out HOW.out
end
section
open Go.Proofs.Tryz
set_option maxHeartbeats 3200000
set_option maxRecDepth 100000
open Go.RowKit Go.Deep

theorem zE9{m:Mg}(h:¬(1<=m.k∧m.k<=4)):zAG m=false:=by unfold zAG;rw[decide_eq_false h];rfl
theorem zGy(w:World)(m:Mg)(h:¬(1<=m.k∧m.k<=4)):Calls prog 108 #[.agg m.cells] w fun e w'=>e=.returned (.tuple #[.slice none 0 0,.bool false])∧Only [] w w':=by
 have HMB:=zAA (Blk.new w 25 m.cells)
 have HO:=zAA ((Only.refl [] w).alloc (.cells m.cells 25))
 have a1:(m.k==1)=false:=by rw[beq_eq_false_iff_ne];omega
 have a2:(m.k==2)=false:=by rw[beq_eq_false_iff_ne];omega
 have a3:(m.k==3)=false:=by rw[beq_eq_false_iff_ne];omega
 have a4:(m.k==4)=false:=by rw[beq_eq_false_iff_ne];omega
 have HRW:=zAA (fun W=>zKu m.k a1 a2 a3 a4 W)
 obtain⟨k,s,r,c,x4,x5,x6,x7,x8,x9,x10,x11,x12⟩:=m
 unfold Mg.cells at HMB HO ⊢
 simp only at HMB HO HRW ⊢
 have m0:=HMB.out.cell 0
 simp at m0
 clear h a1 a2 a3 a4
 go_enter func108,ntmps108
 go_wp2_with (go_at_call 132;refine(HRW.out _).mono ?_;rintro e w1 ⟨rfl,ho⟩;replace HO:=zAA (HO.out.trans ho);clear ho)
 go_ret2
 exact⟨rfl,HO.out⟩
theorem zIM(w:World)(m:Mg)(h:¬(1<=m.k∧m.k<=4)):Calls prog 56 #[.agg m.cells] w (zAp m w):=by
 have HMB:=zAA (Blk.new w 25 m.cells)
 have HO:=zAA ((Only.refl [] w).alloc (.cells m.cells 25))
 have HP:=zAA (fun W=>zGy W m h)
 have HV:=zAA (zE9 h)
 obtain⟨k,s,r,c,x4,x5,x6,x7,x8,x9,x10,x11,x12⟩:=m
 unfold Mg.cells at HMB HO HP ⊢
 simp only at HMB HO HP ⊢
 have m0:=HMB.out.cell 0;have m1:=HMB.out.cell 1;have m2:=HMB.out.cell 2;have m3:=HMB.out.cell 3;have m4:=HMB.out.cell 4;have m5:=HMB.out.cell 5;have m6:=HMB.out.cell 6;have m7:=HMB.out.cell 7;have m8:=HMB.out.cell 8;have m9:=HMB.out.cell 9;have m10:=HMB.out.cell 10;have m11:=HMB.out.cell 11;have m12:=HMB.out.cell 12;simp at m0 m1 m2 m3 m4 m5 m6 m7 m8 m9 m10 m11 m12
 clear h
 go_enter func56,ntmps56
 go_wp2_with (go_at_call 108;refine(HP.out _).mono ?_;rintro e w1 ⟨rfl,ho⟩;replace HO:=zAA (HO.out.trans ho);clear ho)
 go_ret
 exact zDg HV.out HO.out
theorem zMj(k:Int):k=1∨k=2∨k=3∨k=4∨¬(1<=k∧k<=4):=by omega
theorem zBQ(w:World)(m:Mg)(hF:m.Fine):Calls prog 56 #[.agg m.cells] w (zAp m w):=by
 obtain⟨k,s,r,c,x4,x5,x6,x7,x8,x9,x10,x11,x12⟩:=m
 rcases zMj k with rfl|rfl|rfl|rfl|h
 ·exact zL4 w s r c x4 x5 x6 x7 x8 x9 x10 x11 x12 hF
 ·exact zL5 w s r c x4 x5 x6 x7 x8 x9 x10 x11 x12 hF
 ·exact zL6 w s r c x4 x5 x6 x7 x8 x9 x10 x11 x12 hF
 ·exact zL7 w s r c x4 x5 x6 x7 x8 x9 x10 x11 x12 hF
 ·exact zIM w _ h
end
end Go.Proofs.YtfipdjlalfpbnaaGreatDoor
