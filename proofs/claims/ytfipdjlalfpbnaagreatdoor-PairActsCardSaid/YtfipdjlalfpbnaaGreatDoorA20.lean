/-
  Walks and plain words (texts Wj3, Wj4). No condition beyond those that each theorem states.
-/
import Derived.Test.YtfipdjlalfpbnaaGreatDoorA17
namespace Go.Proofs.YtfipdjlalfpbnaaGreatDoor
section
open Go.Proofs.Tryz
set_option maxHeartbeats 12800000
set_option maxRecDepth 100000
open Go.RowKit Go.Deep

theorem zKx(w:World)(s r c:Nat)(x4 x5 x6 x7 x8 x9 x10 x11 x12:ByteArray)(hF:(Mg.mk 3 s r c x4 x5 x6 x7 x8 x9 x10 x11 x12).Fine) :
  Calls prog 108 #[.agg #[.int .i64 3,.int .u32 (s:Nat),.int .u32 (r:Nat),.int .u64 (c:Nat),.string x4,.string x5,.string x6,.string x7,.string x8,.string x9,.string x10,.string x11,.string x12]] w (zBw 3 zGN (zAG (Mg.mk 3 s r c x4 x5 x6 x7 x8 x9 x10 x11 x12)) w):=by
 have hst:=fun(W:World) (a:Addr) (fn:Fn) (c:Array Value)=>(run_store prog W a (.func fn #[] c) .plain rfl:(store a (.func fn #[] c)).run prog W=stored prog W a (.func fn #[] c) .plain)
 have hsn:=fun(W:World) (a:Addr)=>(run_store prog W a .nilFunc .plain rfl:(store a .nilFunc).run prog W=stored prog W a .nilFunc .plain)
 obtain⟨hs,hr,hc,hx4,hx5,hx6,hx7,hx8,hx9,hx10,hx11,hx12⟩:=hF
 simp only at hs hr hc hx4 hx5 hx6 hx7 hx8 hx9 hx10 hx11 hx12
 have HRW:=zAA (fun W=>zMx W)
 unfold zCm at HRW
 have HMB:=zAA (Blk.new w 25 #[.int .i64 3,.int .u32 (s:Nat),.int .u32 (r:Nat),.int .u64 (c:Nat),.string x4,.string x5,.string x6,.string x7,.string x8,.string x9,.string x10,.string x11,.string x12])
 have HO:=zAA ((Only.refl [] w).alloc (.cells #[.int .i64 3,.int .u32 (s:Nat),.int .u32 (r:Nat),.int .u64 (c:Nat),.string x4,.string x5,.string x6,.string x7,.string x8,.string x9,.string x10,.string x11,.string x12] 25))
 go_enter func108,ntmps108
 go_upto_region 4 with (go_at_call 132;refine(HRW.out _).mono ?_;rintro e w1 ⟨g,b1,b2,rfl,hg,hb1,hb2,hrow,hx1,hx2,ho⟩;rw[World.size_alloc]at hg hb1 hb2;have HROW:=zAA hrow;have HX1:=zAA hx1;have HX2:=zAA hx2;have HGR:=zAA hg;have HB1:=zAA hb1;have HB2:=zAA hb2;replace HMB:=zAA (HMB.out.only ho (by simp));replace HO:=zAA (HO.out.trans ho);clear hg hb1 hb2 hrow hx1 hx2 ho;have m0:=HMB.out.cell 0;simp at m0)
 have HPB:=zAA (Blk.new w1 25 #[.int .i64 3,.int .u32 0,.int .u32 0,.int .u64 0,.string ⟨#[]⟩,.string ⟨#[]⟩,.string ⟨#[]⟩,.string ⟨#[]⟩,.string ⟨#[]⟩,.string ⟨#[]⟩,.string ⟨#[]⟩,.string ⟨#[]⟩,.string ⟨#[]⟩])
 have HD:=zAA (show w.heap.size<w1.heap.size∧g<w1.heap.size∧b1<w1.heap.size∧b2<w1.heap.size∧w.heap.size<g∧w.heap.size<b1∧w.heap.size<b2 from⟨HMB.out.lt,HROW.out.lt,HX1.out.lt,HX2.out.lt,by have:=HGR.out;omega,by have:=HB1.out;omega,by have:=HB2.out;omega⟩)
 clear HGR HB1 HB2
 go_upto_region 6 with fail
 replace HMB:=zAA (HMB.out.alloc (.cells #[.int .i64 3,.int .u32 0,.int .u32 0,.int .u64 0,.string ⟨#[]⟩,.string ⟨#[]⟩,.string ⟨#[]⟩,.string ⟨#[]⟩,.string ⟨#[]⟩,.string ⟨#[]⟩,.string ⟨#[]⟩,.string ⟨#[]⟩,.string ⟨#[]⟩] 25))
 replace HROW:=zAA (HROW.out.alloc (.cells #[.int .i64 3,.int .u32 0,.int .u32 0,.int .u64 0,.string ⟨#[]⟩,.string ⟨#[]⟩,.string ⟨#[]⟩,.string ⟨#[]⟩,.string ⟨#[]⟩,.string ⟨#[]⟩,.string ⟨#[]⟩,.string ⟨#[]⟩,.string ⟨#[]⟩] 25))
 replace HX1:=zAA (HX1.out.alloc (.cells #[.int .i64 3,.int .u32 0,.int .u32 0,.int .u64 0,.string ⟨#[]⟩,.string ⟨#[]⟩,.string ⟨#[]⟩,.string ⟨#[]⟩,.string ⟨#[]⟩,.string ⟨#[]⟩,.string ⟨#[]⟩,.string ⟨#[]⟩,.string ⟨#[]⟩] 25))
 replace HX2:=zAA (HX2.out.alloc (.cells #[.int .i64 3,.int .u32 0,.int .u32 0,.int .u64 0,.string ⟨#[]⟩,.string ⟨#[]⟩,.string ⟨#[]⟩,.string ⟨#[]⟩,.string ⟨#[]⟩,.string ⟨#[]⟩,.string ⟨#[]⟩,.string ⟨#[]⟩,.string ⟨#[]⟩] 25))
 replace HO:=zAA (HO.out.alloc (.cells #[.int .i64 3,.int .u32 0,.int .u32 0,.int .u64 0,.string ⟨#[]⟩,.string ⟨#[]⟩,.string ⟨#[]⟩,.string ⟨#[]⟩,.string ⟨#[]⟩,.string ⟨#[]⟩,.string ⟨#[]⟩,.string ⟨#[]⟩,.string ⟨#[]⟩] 25))
 clear m0
 generalize (w1.alloc (.cells #[.int .i64 3,.int .u32 0,.int .u32 0,.int .u64 0,.string ⟨#[]⟩,.string ⟨#[]⟩,.string ⟨#[]⟩,.string ⟨#[]⟩,.string ⟨#[]⟩,.string ⟨#[]⟩,.string ⟨#[]⟩,.string ⟨#[]⟩,.string ⟨#[]⟩] 25))=v0 at *
 refine wp_loop_rounds 4 ?_
 rw[rounds_succ]
 have a0:=HROW.out.cell 0;have a1:=HROW.out.cell 1;have a2:=HROW.out.cell 2;have a3:=HROW.out.cell 3
 simp[zGN,zBd,zB8]at a0 a1 a2 a3
 go_upto_region 8 with fail
 have HF:=zAA (Blk.new v0 155 #[.int .i64 4,.func (.func 169) #[] #[.pointer (some ⟨b2,0,none⟩)],.func (.func 170) #[] #[.pointer (some ⟨b2,0,none⟩)],.nilFunc])
 have HFL:=zAA (show w1.heap.size<v0.heap.size from HPB.out.lt)
 replace HMB:=zAA (HMB.out.alloc (.cells #[.int .i64 4,.func (.func 169) #[] #[.pointer (some ⟨b2,0,none⟩)],.func (.func 170) #[] #[.pointer (some ⟨b2,0,none⟩)],.nilFunc] 155))
 replace HROW:=zAA (HROW.out.alloc (.cells #[.int .i64 4,.func (.func 169) #[] #[.pointer (some ⟨b2,0,none⟩)],.func (.func 170) #[] #[.pointer (some ⟨b2,0,none⟩)],.nilFunc] 155))
 replace HX1:=zAA (HX1.out.alloc (.cells #[.int .i64 4,.func (.func 169) #[] #[.pointer (some ⟨b2,0,none⟩)],.func (.func 170) #[] #[.pointer (some ⟨b2,0,none⟩)],.nilFunc] 155))
 replace HX2:=zAA (HX2.out.alloc (.cells #[.int .i64 4,.func (.func 169) #[] #[.pointer (some ⟨b2,0,none⟩)],.func (.func 170) #[] #[.pointer (some ⟨b2,0,none⟩)],.nilFunc] 155))
 replace HPB:=zAA (HPB.out.alloc (.cells #[.int .i64 4,.func (.func 169) #[] #[.pointer (some ⟨b2,0,none⟩)],.func (.func 170) #[] #[.pointer (some ⟨b2,0,none⟩)],.nilFunc] 155))
 replace HO:=zAA (HO.out.alloc (.cells #[.int .i64 4,.func (.func 169) #[] #[.pointer (some ⟨b2,0,none⟩)],.func (.func 170) #[] #[.pointer (some ⟨b2,0,none⟩)],.nilFunc] 155))
 generalize (v0.alloc (.cells #[.int .i64 4,.func (.func 169) #[] #[.pointer (some ⟨b2,0,none⟩)],.func (.func 170) #[] #[.pointer (some ⟨b2,0,none⟩)],.nilFunc] 155))=u0 at *
 have f0:=HF.out.cell 0;have f1:=HF.out.cell 1;have f2:=HF.out.cell 2;have f3:=HF.out.cell 3;simp at f0 f1 f2 f3
 have mi:=HMB.out.cell 2;have pi_:=HPB.out.cell 2;have pf:=HPB.out.frozen 2;simp at mi pi_
 clear a0 a1 a2 a3
 have x0:=HX2.out.cell 0;simp at x0
 have HG:=zAA ((zGu w.heap.size b2 r u0.drew x0 mi hr).mono fun e w' h=>(⟨h.1,h.2.symm⟩:_∧w'=u0.drew))
 go_wp2_with fail
 refine wp_region_still_tail 5 (by kernel_rfl) (by kernel_rfl) ?_
 simp only[List.take_succ_cons,List.take_zero,List.drop_succ_cons,List.drop_zero]
 repeat still_step
 still_call HG.out
 repeat still_step
 refine wpStill_nil ?_
 change wpList _ _ _ _ _ u0.drew
 go_wp2_with (go_at_call 170;go_loud (refine(zGv w1.heap.size b2 r _ (by exact x0) (y:=0) (by exact pi_) (by exact pf) hr).mono ?_;rintro e v1 ⟨rfl,hw⟩;have ho:Only [w1.heap.size] u0 v1:=(by rw[hw];exact(Only.refl [w1.heap.size] u0).drew.setCell (p:=⟨w1.heap.size,2,none⟩) (.inl (by simp)) _);replace HPB:=zAA (show Blk v1 w1.heap.size 25 #[.int .i64 3,.int .u32 0,.int .u32 (r:Nat),.int .u64 0,.string ⟨#[]⟩,.string ⟨#[]⟩,.string ⟨#[]⟩,.string ⟨#[]⟩,.string ⟨#[]⟩,.string ⟨#[]⟩,.string ⟨#[]⟩,.string ⟨#[]⟩,.string ⟨#[]⟩]from(by have h:=HPB.out.drew.set_ 2 (.int .u32 (r:Nat));simp only[List.setIfInBounds_toArray,List.set_cons_zero,List.set_cons_succ]at h;rw[hw];exact h));replace HMB:=zAA (HMB.out.only ho (by have:=HD.out;simp;omega));replace HROW:=zAA (HROW.out.only ho (by have:=HD.out;simp;omega));replace HX1:=zAA (HX1.out.only ho (by have:=HD.out;simp;omega));replace HX2:=zAA (HX2.out.only ho (by have:=HD.out;simp;omega));replace HO:=zAA ((HO.out.mono (S':=[w1.heap.size]) (by simp)).trans ho |>.mono (S':=[]) (by have:=HD.out;simp;omega));clear ho hw))
 clear f0 f1 f2 f3 mi pi_ pf HG HF HFL x0
 rw[rounds_succ]
 have a0:=HROW.out.cell 4;have a1:=HROW.out.cell 5;have a2:=HROW.out.cell 6;have a3:=HROW.out.cell 7
 simp[zGN,zBd,zB8]at a0 a1 a2 a3
 go_upto_region 8 with fail
 have HF:=zAA (Blk.new v1 155 #[.int .i64 0,.nilFunc,.nilFunc,.func (.func 158) #[] #[]])
 have HFL:=zAA (show w1.heap.size<v1.heap.size from HPB.out.lt)
 replace HMB:=zAA (HMB.out.alloc (.cells #[.int .i64 0,.nilFunc,.nilFunc,.func (.func 158) #[] #[]] 155))
 replace HROW:=zAA (HROW.out.alloc (.cells #[.int .i64 0,.nilFunc,.nilFunc,.func (.func 158) #[] #[]] 155))
 replace HX1:=zAA (HX1.out.alloc (.cells #[.int .i64 0,.nilFunc,.nilFunc,.func (.func 158) #[] #[]] 155))
 replace HX2:=zAA (HX2.out.alloc (.cells #[.int .i64 0,.nilFunc,.nilFunc,.func (.func 158) #[] #[]] 155))
 replace HPB:=zAA (HPB.out.alloc (.cells #[.int .i64 0,.nilFunc,.nilFunc,.func (.func 158) #[] #[]] 155))
 replace HO:=zAA (HO.out.alloc (.cells #[.int .i64 0,.nilFunc,.nilFunc,.func (.func 158) #[] #[]] 155))
 generalize (v1.alloc (.cells #[.int .i64 0,.nilFunc,.nilFunc,.func (.func 158) #[] #[]] 155))=u1 at *
 have f0:=HF.out.cell 0;have f1:=HF.out.cell 1;have f2:=HF.out.cell 2;have f3:=HF.out.cell 3;simp at f0 f1 f2 f3
 have mi:=HMB.out.cell 8;have pi_:=HPB.out.cell 8;have pf:=HPB.out.frozen 8;simp at mi pi_
 clear a0 a1 a2 a3
 have HFT:=zAA (fun W=>zB0 W x8 hx8)
 unfold zAn at HFT
 cases hf8:zAz x8
 case false =>
  rw[hf8]at HFT
  have HV:=zAA (show zAG (Mg.mk 3 s r c x4 x5 x6 x7 x8 x9 x10 x11 x12)=false by simp[zAG,zAU,hf8])
  clear hf8
  go_wp2_with (first|(go_at_call 158;refine(zJd _ _).mono ?_;rintro e w4 ⟨rfl,rfl⟩)|(go_at_call 133;refine(HFT.out _).mono ?_;rintro e w3 ⟨rfl,ho⟩;replace HO:=zAA (HO.out.trans ho);clear ho))
  go_ret2
  exact zB1 HV.out HO.out
 rw[hf8]at HFT
 have HB8:=zAA hf8
 clear hf8
 go_wp2_with (first|(go_at_call 158;refine(zJd _ _).mono ?_;rintro e w4 ⟨rfl,rfl⟩)|(go_at_call 133;refine(HFT.out _).mono ?_;rintro e w3 ⟨rfl,ho⟩;replace HMB:=zAA (HMB.out.only ho (by simp));replace HROW:=zAA (HROW.out.only ho (by simp));replace HX1:=zAA (HX1.out.only ho (by simp));replace HX2:=zAA (HX2.out.only ho (by simp));replace HPB:=zAA (HPB.out.only ho (by simp));replace HF:=zAA (HF.out.only ho (by simp));replace HO:=zAA (HO.out.trans ho);clear ho f0 f1 f2 f3 pi_ pf;have f3:=HF.out.cell 3;have pi_:=HPB.out.cell 8;have pf:=HPB.out.frozen 8;simp at f3 pi_))
 have ho:=(Only.refl [w1.heap.size] w3).setCell (p:=⟨w1.heap.size,8,none⟩) (.inl (by simp)) (.string x8)
 replace HPB:=zAA (show Blk (w3.setCell ⟨w1.heap.size,8,none⟩ (.string x8)) w1.heap.size 25 #[.int .i64 3,.int .u32 0,.int .u32 (r:Nat),.int .u64 0,.string ⟨#[]⟩,.string ⟨#[]⟩,.string ⟨#[]⟩,.string ⟨#[]⟩,.string x8,.string ⟨#[]⟩,.string ⟨#[]⟩,.string ⟨#[]⟩,.string ⟨#[]⟩]from(by have h:=HPB.out.set_ 8 (.string x8);simp only[List.setIfInBounds_toArray,List.set_cons_zero,List.set_cons_succ]at h;exact h))
 replace HMB:=zAA (HMB.out.only ho (by have:=HD.out;simp;omega))
 replace HROW:=zAA (HROW.out.only ho (by have:=HD.out;simp;omega))
 replace HX1:=zAA (HX1.out.only ho (by have:=HD.out;simp;omega))
 replace HX2:=zAA (HX2.out.only ho (by have:=HD.out;simp;omega))
 replace HO:=zAA ((HO.out.mono (S':=[w1.heap.size]) (by simp)).trans ho |>.mono (S':=[]) (by have:=HD.out;simp;omega))
 generalize (w3.setCell ⟨w1.heap.size,8,none⟩ (.string x8))=v2 at *
 clear f3 mi pi_ pf HFT HF HFL ho
 rw[rounds_succ]
 have a0:=HROW.out.cell 8;have a1:=HROW.out.cell 9;have a2:=HROW.out.cell 10;have a3:=HROW.out.cell 11
 simp[zGN,zBd,zB8]at a0 a1 a2 a3
 go_upto_region 8 with fail
 have HF:=zAA (Blk.new v2 155 #[.int .i64 0,.nilFunc,.nilFunc,.func (.func 159) #[] #[]])
 have HFL:=zAA (show w1.heap.size<v2.heap.size from HPB.out.lt)
 replace HMB:=zAA (HMB.out.alloc (.cells #[.int .i64 0,.nilFunc,.nilFunc,.func (.func 159) #[] #[]] 155))
 replace HROW:=zAA (HROW.out.alloc (.cells #[.int .i64 0,.nilFunc,.nilFunc,.func (.func 159) #[] #[]] 155))
 replace HX1:=zAA (HX1.out.alloc (.cells #[.int .i64 0,.nilFunc,.nilFunc,.func (.func 159) #[] #[]] 155))
 replace HX2:=zAA (HX2.out.alloc (.cells #[.int .i64 0,.nilFunc,.nilFunc,.func (.func 159) #[] #[]] 155))
 replace HPB:=zAA (HPB.out.alloc (.cells #[.int .i64 0,.nilFunc,.nilFunc,.func (.func 159) #[] #[]] 155))
 replace HO:=zAA (HO.out.alloc (.cells #[.int .i64 0,.nilFunc,.nilFunc,.func (.func 159) #[] #[]] 155))
 generalize (v2.alloc (.cells #[.int .i64 0,.nilFunc,.nilFunc,.func (.func 159) #[] #[]] 155))=u2 at *
 have f0:=HF.out.cell 0;have f1:=HF.out.cell 1;have f2:=HF.out.cell 2;have f3:=HF.out.cell 3;simp at f0 f1 f2 f3
 have mi:=HMB.out.cell 9;have pi_:=HPB.out.cell 9;have pf:=HPB.out.frozen 9;simp at mi pi_
 clear a0 a1 a2 a3
 have HFT:=zAA (fun W=>zB0 W x9 hx9)
 unfold zAn at HFT
 cases hf9:zAz x9
 case false =>
  rw[hf9]at HFT
  have HV:=zAA (show zAG (Mg.mk 3 s r c x4 x5 x6 x7 x8 x9 x10 x11 x12)=false by simp[zAG,zAU,hf9])
  clear hf9
  go_wp2_with (first|(go_at_call 159;refine(zJe _ _).mono ?_;rintro e w4 ⟨rfl,rfl⟩)|(go_at_call 133;refine(HFT.out _).mono ?_;rintro e w3 ⟨rfl,ho⟩;replace HO:=zAA (HO.out.trans ho);clear ho))
  go_ret2
  exact zB1 HV.out HO.out
 rw[hf9]at HFT
 have HB9:=zAA hf9
 clear hf9
 go_wp2_with (first|(go_at_call 159;refine(zJe _ _).mono ?_;rintro e w4 ⟨rfl,rfl⟩)|(go_at_call 133;refine(HFT.out _).mono ?_;rintro e w3 ⟨rfl,ho⟩;replace HMB:=zAA (HMB.out.only ho (by simp));replace HROW:=zAA (HROW.out.only ho (by simp));replace HX1:=zAA (HX1.out.only ho (by simp));replace HX2:=zAA (HX2.out.only ho (by simp));replace HPB:=zAA (HPB.out.only ho (by simp));replace HF:=zAA (HF.out.only ho (by simp));replace HO:=zAA (HO.out.trans ho);clear ho f0 f1 f2 f3 pi_ pf;have f3:=HF.out.cell 3;have pi_:=HPB.out.cell 9;have pf:=HPB.out.frozen 9;simp at f3 pi_))
 have ho:=(Only.refl [w1.heap.size] w3).setCell (p:=⟨w1.heap.size,9,none⟩) (.inl (by simp)) (.string x9)
 replace HPB:=zAA (show Blk (w3.setCell ⟨w1.heap.size,9,none⟩ (.string x9)) w1.heap.size 25 #[.int .i64 3,.int .u32 0,.int .u32 (r:Nat),.int .u64 0,.string ⟨#[]⟩,.string ⟨#[]⟩,.string ⟨#[]⟩,.string ⟨#[]⟩,.string x8,.string x9,.string ⟨#[]⟩,.string ⟨#[]⟩,.string ⟨#[]⟩]from(by have h:=HPB.out.set_ 9 (.string x9);simp only[List.setIfInBounds_toArray,List.set_cons_zero,List.set_cons_succ]at h;exact h))
 replace HMB:=zAA (HMB.out.only ho (by have:=HD.out;simp;omega))
 replace HROW:=zAA (HROW.out.only ho (by have:=HD.out;simp;omega))
 replace HX1:=zAA (HX1.out.only ho (by have:=HD.out;simp;omega))
 replace HX2:=zAA (HX2.out.only ho (by have:=HD.out;simp;omega))
 replace HO:=zAA ((HO.out.mono (S':=[w1.heap.size]) (by simp)).trans ho |>.mono (S':=[]) (by have:=HD.out;simp;omega))
 generalize (w3.setCell ⟨w1.heap.size,9,none⟩ (.string x9))=v3 at *
 clear f3 mi pi_ pf HFT HF HFL ho
 rw[rounds_succ]
 have heq:∀W:World,(binOp .eql 25 (.agg #[.int .i64 3,.int .u32 0,.int .u32 (r:Nat),.int .u64 0,.string ⟨#[]⟩,.string ⟨#[]⟩,.string ⟨#[]⟩,.string ⟨#[]⟩,.string x8,.string x9,.string ⟨#[]⟩,.string ⟨#[]⟩,.string ⟨#[]⟩]) (.agg #[.int .i64 3,.int .u32 (s:Nat),.int .u32 (r:Nat),.int .u64 (c:Nat),.string x4,.string x5,.string x6,.string x7,.string x8,.string x9,.string x10,.string x11,.string x12])).run prog W=.ok (.bool (eqM (zBU (Mg.mk 3 s r c x4 x5 x6 x7 x8 x9 x10 x11 x12)) (Mg.mk 3 s r c x4 x5 x6 x7 x8 x9 x10 x11 x12))) W:=fun W=>zCh (zBU (Mg.mk 3 s r c x4 x5 x6 x7 x8 x9 x10 x11 x12)) (Mg.mk 3 s r c x4 x5 x6 x7 x8 x9 x10 x11 x12) W
 have HV:=zAA (show zAG (Mg.mk 3 s r c x4 x5 x6 x7 x8 x9 x10 x11 x12)=eqM (zBU (Mg.mk 3 s r c x4 x5 x6 x7 x8 x9 x10 x11 x12)) (Mg.mk 3 s r c x4 x5 x6 x7 x8 x9 x10 x11 x12)by simp[zAG,zAU,HB8.out,HB9.out])
 generalize eqM (zBU (Mg.mk 3 s r c x4 x5 x6 x7 x8 x9 x10 x11 x12)) (Mg.mk 3 s r c x4 x5 x6 x7 x8 x9 x10 x11 x12)=B at *
 have m0:=HMB.out.cell 0;have m1:=HMB.out.cell 1;have m2:=HMB.out.cell 2;have m3:=HMB.out.cell 3;have m4:=HMB.out.cell 4;have m5:=HMB.out.cell 5;have m6:=HMB.out.cell 6;have m7:=HMB.out.cell 7;have m8:=HMB.out.cell 8;have m9:=HMB.out.cell 9;have m10:=HMB.out.cell 10;have m11:=HMB.out.cell 11;have m12:=HMB.out.cell 12;simp at m0 m1 m2 m3 m4 m5 m6 m7 m8 m9 m10 m11 m12
 have p0:=HPB.out.cell 0;have p1:=HPB.out.cell 1;have p2:=HPB.out.cell 2;have p3:=HPB.out.cell 3;have p4:=HPB.out.cell 4;have p5:=HPB.out.cell 5;have p6:=HPB.out.cell 6;have p7:=HPB.out.cell 7;have p8:=HPB.out.cell 8;have p9:=HPB.out.cell 9;have p10:=HPB.out.cell 10;have p11:=HPB.out.cell 11;have p12:=HPB.out.cell 12;simp at p0 p1 p2 p3 p4 p5 p6 p7 p8 p9 p10 p11 p12
 go_wp2_with fail
 refine wp_region_still_lit (by kernel_rfl) (by kernel_rfl) ?_
 repeat still_step
 refine wpStill_nil ?_
 go_wp2_with fail
 go_ret2
 exact zFn (b1:=b1) (b2:=b2) HV.out (by have:=HD.out;omega) (by have:=HD.out;omega) (by have:=HD.out;omega) HROW.out.drew HX1.out.drew HX2.out.drew HO.out.drew
end
section
open Go.Proofs.Tryz
set_option maxHeartbeats 12800000
set_option maxRecDepth 100000
open Go.RowKit Go.Deep

theorem zKy(w:World)(s r c:Nat)(x4 x5 x6 x7 x8 x9 x10 x11 x12:ByteArray)(hF:(Mg.mk 4 s r c x4 x5 x6 x7 x8 x9 x10 x11 x12).Fine) :
  Calls prog 108 #[.agg #[.int .i64 4,.int .u32 (s:Nat),.int .u32 (r:Nat),.int .u64 (c:Nat),.string x4,.string x5,.string x6,.string x7,.string x8,.string x9,.string x10,.string x11,.string x12]] w (zBw 3 zGO (zAG (Mg.mk 4 s r c x4 x5 x6 x7 x8 x9 x10 x11 x12)) w):=by
 have hst:=fun(W:World) (a:Addr) (fn:Fn) (c:Array Value)=>(run_store prog W a (.func fn #[] c) .plain rfl:(store a (.func fn #[] c)).run prog W=stored prog W a (.func fn #[] c) .plain)
 have hsn:=fun(W:World) (a:Addr)=>(run_store prog W a .nilFunc .plain rfl:(store a .nilFunc).run prog W=stored prog W a .nilFunc .plain)
 obtain⟨hs,hr,hc,hx4,hx5,hx6,hx7,hx8,hx9,hx10,hx11,hx12⟩:=hF
 simp only at hs hr hc hx4 hx5 hx6 hx7 hx8 hx9 hx10 hx11 hx12
 have HRW:=zAA (fun W=>zMy W)
 unfold zCm at HRW
 have HMB:=zAA (Blk.new w 25 #[.int .i64 4,.int .u32 (s:Nat),.int .u32 (r:Nat),.int .u64 (c:Nat),.string x4,.string x5,.string x6,.string x7,.string x8,.string x9,.string x10,.string x11,.string x12])
 have HO:=zAA ((Only.refl [] w).alloc (.cells #[.int .i64 4,.int .u32 (s:Nat),.int .u32 (r:Nat),.int .u64 (c:Nat),.string x4,.string x5,.string x6,.string x7,.string x8,.string x9,.string x10,.string x11,.string x12] 25))
 go_enter func108,ntmps108
 go_upto_region 4 with (go_at_call 132;refine(HRW.out _).mono ?_;rintro e w1 ⟨g,b1,b2,rfl,hg,hb1,hb2,hrow,hx1,hx2,ho⟩;rw[World.size_alloc]at hg hb1 hb2;have HROW:=zAA hrow;have HX1:=zAA hx1;have HX2:=zAA hx2;have HGR:=zAA hg;have HB1:=zAA hb1;have HB2:=zAA hb2;replace HMB:=zAA (HMB.out.only ho (by simp));replace HO:=zAA (HO.out.trans ho);clear hg hb1 hb2 hrow hx1 hx2 ho;have m0:=HMB.out.cell 0;simp at m0)
 have HPB:=zAA (Blk.new w1 25 #[.int .i64 4,.int .u32 0,.int .u32 0,.int .u64 0,.string ⟨#[]⟩,.string ⟨#[]⟩,.string ⟨#[]⟩,.string ⟨#[]⟩,.string ⟨#[]⟩,.string ⟨#[]⟩,.string ⟨#[]⟩,.string ⟨#[]⟩,.string ⟨#[]⟩])
 have HD:=zAA (show w.heap.size<w1.heap.size∧g<w1.heap.size∧b1<w1.heap.size∧b2<w1.heap.size∧w.heap.size<g∧w.heap.size<b1∧w.heap.size<b2 from⟨HMB.out.lt,HROW.out.lt,HX1.out.lt,HX2.out.lt,by have:=HGR.out;omega,by have:=HB1.out;omega,by have:=HB2.out;omega⟩)
 clear HGR HB1 HB2
 go_upto_region 6 with fail
 replace HMB:=zAA (HMB.out.alloc (.cells #[.int .i64 4,.int .u32 0,.int .u32 0,.int .u64 0,.string ⟨#[]⟩,.string ⟨#[]⟩,.string ⟨#[]⟩,.string ⟨#[]⟩,.string ⟨#[]⟩,.string ⟨#[]⟩,.string ⟨#[]⟩,.string ⟨#[]⟩,.string ⟨#[]⟩] 25))
 replace HROW:=zAA (HROW.out.alloc (.cells #[.int .i64 4,.int .u32 0,.int .u32 0,.int .u64 0,.string ⟨#[]⟩,.string ⟨#[]⟩,.string ⟨#[]⟩,.string ⟨#[]⟩,.string ⟨#[]⟩,.string ⟨#[]⟩,.string ⟨#[]⟩,.string ⟨#[]⟩,.string ⟨#[]⟩] 25))
 replace HX1:=zAA (HX1.out.alloc (.cells #[.int .i64 4,.int .u32 0,.int .u32 0,.int .u64 0,.string ⟨#[]⟩,.string ⟨#[]⟩,.string ⟨#[]⟩,.string ⟨#[]⟩,.string ⟨#[]⟩,.string ⟨#[]⟩,.string ⟨#[]⟩,.string ⟨#[]⟩,.string ⟨#[]⟩] 25))
 replace HX2:=zAA (HX2.out.alloc (.cells #[.int .i64 4,.int .u32 0,.int .u32 0,.int .u64 0,.string ⟨#[]⟩,.string ⟨#[]⟩,.string ⟨#[]⟩,.string ⟨#[]⟩,.string ⟨#[]⟩,.string ⟨#[]⟩,.string ⟨#[]⟩,.string ⟨#[]⟩,.string ⟨#[]⟩] 25))
 replace HO:=zAA (HO.out.alloc (.cells #[.int .i64 4,.int .u32 0,.int .u32 0,.int .u64 0,.string ⟨#[]⟩,.string ⟨#[]⟩,.string ⟨#[]⟩,.string ⟨#[]⟩,.string ⟨#[]⟩,.string ⟨#[]⟩,.string ⟨#[]⟩,.string ⟨#[]⟩,.string ⟨#[]⟩] 25))
 clear m0
 generalize (w1.alloc (.cells #[.int .i64 4,.int .u32 0,.int .u32 0,.int .u64 0,.string ⟨#[]⟩,.string ⟨#[]⟩,.string ⟨#[]⟩,.string ⟨#[]⟩,.string ⟨#[]⟩,.string ⟨#[]⟩,.string ⟨#[]⟩,.string ⟨#[]⟩,.string ⟨#[]⟩] 25))=v0 at *
 refine wp_loop_rounds 4 ?_
 rw[rounds_succ]
 have a0:=HROW.out.cell 0;have a1:=HROW.out.cell 1;have a2:=HROW.out.cell 2;have a3:=HROW.out.cell 3
 simp[zGO,zBd,zB8,zL3]at a0 a1 a2 a3
 go_upto_region 8 with fail
 have HF:=zAA (Blk.new v0 155 #[.int .i64 4,.func (.func 169) #[] #[.pointer (some ⟨b2,0,none⟩)],.func (.func 170) #[] #[.pointer (some ⟨b2,0,none⟩)],.nilFunc])
 have HFL:=zAA (show w1.heap.size<v0.heap.size from HPB.out.lt)
 replace HMB:=zAA (HMB.out.alloc (.cells #[.int .i64 4,.func (.func 169) #[] #[.pointer (some ⟨b2,0,none⟩)],.func (.func 170) #[] #[.pointer (some ⟨b2,0,none⟩)],.nilFunc] 155))
 replace HROW:=zAA (HROW.out.alloc (.cells #[.int .i64 4,.func (.func 169) #[] #[.pointer (some ⟨b2,0,none⟩)],.func (.func 170) #[] #[.pointer (some ⟨b2,0,none⟩)],.nilFunc] 155))
 replace HX1:=zAA (HX1.out.alloc (.cells #[.int .i64 4,.func (.func 169) #[] #[.pointer (some ⟨b2,0,none⟩)],.func (.func 170) #[] #[.pointer (some ⟨b2,0,none⟩)],.nilFunc] 155))
 replace HX2:=zAA (HX2.out.alloc (.cells #[.int .i64 4,.func (.func 169) #[] #[.pointer (some ⟨b2,0,none⟩)],.func (.func 170) #[] #[.pointer (some ⟨b2,0,none⟩)],.nilFunc] 155))
 replace HPB:=zAA (HPB.out.alloc (.cells #[.int .i64 4,.func (.func 169) #[] #[.pointer (some ⟨b2,0,none⟩)],.func (.func 170) #[] #[.pointer (some ⟨b2,0,none⟩)],.nilFunc] 155))
 replace HO:=zAA (HO.out.alloc (.cells #[.int .i64 4,.func (.func 169) #[] #[.pointer (some ⟨b2,0,none⟩)],.func (.func 170) #[] #[.pointer (some ⟨b2,0,none⟩)],.nilFunc] 155))
 generalize (v0.alloc (.cells #[.int .i64 4,.func (.func 169) #[] #[.pointer (some ⟨b2,0,none⟩)],.func (.func 170) #[] #[.pointer (some ⟨b2,0,none⟩)],.nilFunc] 155))=u0 at *
 have f0:=HF.out.cell 0;have f1:=HF.out.cell 1;have f2:=HF.out.cell 2;have f3:=HF.out.cell 3;simp at f0 f1 f2 f3
 have mi:=HMB.out.cell 2;have pi_:=HPB.out.cell 2;have pf:=HPB.out.frozen 2;simp at mi pi_
 clear a0 a1 a2 a3
 have x0:=HX2.out.cell 0;simp at x0
 have HG:=zAA ((zGu w.heap.size b2 r u0.drew x0 mi hr).mono fun e w' h=>(⟨h.1,h.2.symm⟩:_∧w'=u0.drew))
 go_wp2_with fail
 refine wp_region_still_tail 5 (by kernel_rfl) (by kernel_rfl) ?_
 simp only[List.take_succ_cons,List.take_zero,List.drop_succ_cons,List.drop_zero]
 repeat still_step
 still_call HG.out
 repeat still_step
 refine wpStill_nil ?_
 change wpList _ _ _ _ _ u0.drew
 go_wp2_with (go_at_call 170;go_loud (refine(zGv w1.heap.size b2 r _ (by exact x0) (y:=0) (by exact pi_) (by exact pf) hr).mono ?_;rintro e v1 ⟨rfl,hw⟩;have ho:Only [w1.heap.size] u0 v1:=(by rw[hw];exact(Only.refl [w1.heap.size] u0).drew.setCell (p:=⟨w1.heap.size,2,none⟩) (.inl (by simp)) _);replace HPB:=zAA (show Blk v1 w1.heap.size 25 #[.int .i64 4,.int .u32 0,.int .u32 (r:Nat),.int .u64 0,.string ⟨#[]⟩,.string ⟨#[]⟩,.string ⟨#[]⟩,.string ⟨#[]⟩,.string ⟨#[]⟩,.string ⟨#[]⟩,.string ⟨#[]⟩,.string ⟨#[]⟩,.string ⟨#[]⟩]from(by have h:=HPB.out.drew.set_ 2 (.int .u32 (r:Nat));simp only[List.setIfInBounds_toArray,List.set_cons_zero,List.set_cons_succ]at h;rw[hw];exact h));replace HMB:=zAA (HMB.out.only ho (by have:=HD.out;simp;omega));replace HROW:=zAA (HROW.out.only ho (by have:=HD.out;simp;omega));replace HX1:=zAA (HX1.out.only ho (by have:=HD.out;simp;omega));replace HX2:=zAA (HX2.out.only ho (by have:=HD.out;simp;omega));replace HO:=zAA ((HO.out.mono (S':=[w1.heap.size]) (by simp)).trans ho |>.mono (S':=[]) (by have:=HD.out;simp;omega));clear ho hw))
 clear f0 f1 f2 f3 mi pi_ pf HG HF HFL x0
 rw[rounds_succ]
 have a0:=HROW.out.cell 4;have a1:=HROW.out.cell 5;have a2:=HROW.out.cell 6;have a3:=HROW.out.cell 7
 simp[zGO,zBd,zB8,zL3]at a0 a1 a2 a3
 go_upto_region 8 with fail
 have HF:=zAA (Blk.new v1 155 #[.int .i64 8,.func (.func 160) #[] #[],.func (.func 161) #[] #[],.nilFunc])
 have HFL:=zAA (show w1.heap.size<v1.heap.size from HPB.out.lt)
 replace HMB:=zAA (HMB.out.alloc (.cells #[.int .i64 8,.func (.func 160) #[] #[],.func (.func 161) #[] #[],.nilFunc] 155))
 replace HROW:=zAA (HROW.out.alloc (.cells #[.int .i64 8,.func (.func 160) #[] #[],.func (.func 161) #[] #[],.nilFunc] 155))
 replace HX1:=zAA (HX1.out.alloc (.cells #[.int .i64 8,.func (.func 160) #[] #[],.func (.func 161) #[] #[],.nilFunc] 155))
 replace HX2:=zAA (HX2.out.alloc (.cells #[.int .i64 8,.func (.func 160) #[] #[],.func (.func 161) #[] #[],.nilFunc] 155))
 replace HPB:=zAA (HPB.out.alloc (.cells #[.int .i64 8,.func (.func 160) #[] #[],.func (.func 161) #[] #[],.nilFunc] 155))
 replace HO:=zAA (HO.out.alloc (.cells #[.int .i64 8,.func (.func 160) #[] #[],.func (.func 161) #[] #[],.nilFunc] 155))
 generalize (v1.alloc (.cells #[.int .i64 8,.func (.func 160) #[] #[],.func (.func 161) #[] #[],.nilFunc] 155))=u1 at *
 have f0:=HF.out.cell 0;have f1:=HF.out.cell 1;have f2:=HF.out.cell 2;have f3:=HF.out.cell 3;simp at f0 f1 f2 f3
 have mi:=HMB.out.cell 3;have pi_:=HPB.out.cell 3;have pf:=HPB.out.frozen 3;simp at mi pi_
 clear a0 a1 a2 a3
 have HG:=zAA ((zMh w.heap.size c u1.drew mi).mono fun e w' h=>(⟨h.1,h.2.symm⟩:_∧w'=u1.drew))
 go_wp2_with fail
 refine wp_region_still_tail 5 (by kernel_rfl) (by kernel_rfl) ?_
 simp only[List.take_succ_cons,List.take_zero,List.drop_succ_cons,List.drop_zero]
 repeat still_step
 still_call HG.out
 repeat still_step
 refine wpStill_nil ?_
 change wpList _ _ _ _ _ u1.drew
 go_wp2_with (go_at_call 161;go_loud (refine(zMi w1.heap.size c _ (y:=0) (by exact pi_) (by exact pf)).mono ?_;rintro e v2 ⟨rfl,hw⟩;have ho:Only [w1.heap.size] u1 v2:=(by rw[hw];exact(Only.refl [w1.heap.size] u1).drew.setCell (p:=⟨w1.heap.size,3,none⟩) (.inl (by simp)) _);replace HPB:=zAA (show Blk v2 w1.heap.size 25 #[.int .i64 4,.int .u32 0,.int .u32 (r:Nat),.int .u64 (c:Nat),.string ⟨#[]⟩,.string ⟨#[]⟩,.string ⟨#[]⟩,.string ⟨#[]⟩,.string ⟨#[]⟩,.string ⟨#[]⟩,.string ⟨#[]⟩,.string ⟨#[]⟩,.string ⟨#[]⟩]from(by have h:=HPB.out.drew.set_ 3 (.int .u64 (c:Nat));simp only[List.setIfInBounds_toArray,List.set_cons_zero,List.set_cons_succ]at h;rw[hw];exact h));replace HMB:=zAA (HMB.out.only ho (by have:=HD.out;simp;omega));replace HROW:=zAA (HROW.out.only ho (by have:=HD.out;simp;omega));replace HX1:=zAA (HX1.out.only ho (by have:=HD.out;simp;omega));replace HX2:=zAA (HX2.out.only ho (by have:=HD.out;simp;omega));replace HO:=zAA ((HO.out.mono (S':=[w1.heap.size]) (by simp)).trans ho |>.mono (S':=[]) (by have:=HD.out;simp;omega));clear ho hw))
 clear f0 f1 f2 f3 mi pi_ pf HG HF HFL
 rw[rounds_succ]
 have a0:=HROW.out.cell 8;have a1:=HROW.out.cell 9;have a2:=HROW.out.cell 10;have a3:=HROW.out.cell 11
 simp[zGO,zBd,zB8,zL3]at a0 a1 a2 a3
 go_upto_region 8 with fail
 have HF:=zAA (Blk.new v2 155 #[.int .i64 0,.nilFunc,.nilFunc,.func (.func 162) #[] #[]])
 have HFL:=zAA (show w1.heap.size<v2.heap.size from HPB.out.lt)
 replace HMB:=zAA (HMB.out.alloc (.cells #[.int .i64 0,.nilFunc,.nilFunc,.func (.func 162) #[] #[]] 155))
 replace HROW:=zAA (HROW.out.alloc (.cells #[.int .i64 0,.nilFunc,.nilFunc,.func (.func 162) #[] #[]] 155))
 replace HX1:=zAA (HX1.out.alloc (.cells #[.int .i64 0,.nilFunc,.nilFunc,.func (.func 162) #[] #[]] 155))
 replace HX2:=zAA (HX2.out.alloc (.cells #[.int .i64 0,.nilFunc,.nilFunc,.func (.func 162) #[] #[]] 155))
 replace HPB:=zAA (HPB.out.alloc (.cells #[.int .i64 0,.nilFunc,.nilFunc,.func (.func 162) #[] #[]] 155))
 replace HO:=zAA (HO.out.alloc (.cells #[.int .i64 0,.nilFunc,.nilFunc,.func (.func 162) #[] #[]] 155))
 generalize (v2.alloc (.cells #[.int .i64 0,.nilFunc,.nilFunc,.func (.func 162) #[] #[]] 155))=u2 at *
 have f0:=HF.out.cell 0;have f1:=HF.out.cell 1;have f2:=HF.out.cell 2;have f3:=HF.out.cell 3;simp at f0 f1 f2 f3
 have mi:=HMB.out.cell 10;have pi_:=HPB.out.cell 10;have pf:=HPB.out.frozen 10;simp at mi pi_
 clear a0 a1 a2 a3
 have HFT:=zAA (fun W=>zB0 W x10 hx10)
 unfold zAn at HFT
 cases hf10:zAz x10
 case false =>
  rw[hf10]at HFT
  have HV:=zAA (show zAG (Mg.mk 4 s r c x4 x5 x6 x7 x8 x9 x10 x11 x12)=false by simp[zAG,zAU,hf10])
  clear hf10
  go_wp2_with (first|(go_at_call 162;refine(zGw _ _).mono ?_;rintro e w4 ⟨rfl,rfl⟩)|(go_at_call 133;refine(HFT.out _).mono ?_;rintro e w3 ⟨rfl,ho⟩;replace HO:=zAA (HO.out.trans ho);clear ho))
  go_ret2
  exact zB1 HV.out HO.out
 rw[hf10]at HFT
 have HB10:=zAA hf10
 clear hf10
 go_wp2_with (first|(go_at_call 162;refine(zGw _ _).mono ?_;rintro e w4 ⟨rfl,rfl⟩)|(go_at_call 133;refine(HFT.out _).mono ?_;rintro e w3 ⟨rfl,ho⟩;replace HMB:=zAA (HMB.out.only ho (by simp));replace HROW:=zAA (HROW.out.only ho (by simp));replace HX1:=zAA (HX1.out.only ho (by simp));replace HX2:=zAA (HX2.out.only ho (by simp));replace HPB:=zAA (HPB.out.only ho (by simp));replace HF:=zAA (HF.out.only ho (by simp));replace HO:=zAA (HO.out.trans ho);clear ho f0 f1 f2 f3 pi_ pf;have f3:=HF.out.cell 3;have pi_:=HPB.out.cell 10;have pf:=HPB.out.frozen 10;simp at f3 pi_))
 have ho:=(Only.refl [w1.heap.size] w3).setCell (p:=⟨w1.heap.size,10,none⟩) (.inl (by simp)) (.string x10)
 replace HPB:=zAA (show Blk (w3.setCell ⟨w1.heap.size,10,none⟩ (.string x10)) w1.heap.size 25 #[.int .i64 4,.int .u32 0,.int .u32 (r:Nat),.int .u64 (c:Nat),.string ⟨#[]⟩,.string ⟨#[]⟩,.string ⟨#[]⟩,.string ⟨#[]⟩,.string ⟨#[]⟩,.string ⟨#[]⟩,.string x10,.string ⟨#[]⟩,.string ⟨#[]⟩]from(by have h:=HPB.out.set_ 10 (.string x10);simp only[List.setIfInBounds_toArray,List.set_cons_zero,List.set_cons_succ]at h;exact h))
 replace HMB:=zAA (HMB.out.only ho (by have:=HD.out;simp;omega))
 replace HROW:=zAA (HROW.out.only ho (by have:=HD.out;simp;omega))
 replace HX1:=zAA (HX1.out.only ho (by have:=HD.out;simp;omega))
 replace HX2:=zAA (HX2.out.only ho (by have:=HD.out;simp;omega))
 replace HO:=zAA ((HO.out.mono (S':=[w1.heap.size]) (by simp)).trans ho |>.mono (S':=[]) (by have:=HD.out;simp;omega))
 generalize (w3.setCell ⟨w1.heap.size,10,none⟩ (.string x10))=v3 at *
 clear f3 mi pi_ pf HFT HF HFL ho
 rw[rounds_succ]
 have heq:∀W:World,(binOp .eql 25 (.agg #[.int .i64 4,.int .u32 0,.int .u32 (r:Nat),.int .u64 (c:Nat),.string ⟨#[]⟩,.string ⟨#[]⟩,.string ⟨#[]⟩,.string ⟨#[]⟩,.string ⟨#[]⟩,.string ⟨#[]⟩,.string x10,.string ⟨#[]⟩,.string ⟨#[]⟩]) (.agg #[.int .i64 4,.int .u32 (s:Nat),.int .u32 (r:Nat),.int .u64 (c:Nat),.string x4,.string x5,.string x6,.string x7,.string x8,.string x9,.string x10,.string x11,.string x12])).run prog W=.ok (.bool (eqM (zBU (Mg.mk 4 s r c x4 x5 x6 x7 x8 x9 x10 x11 x12)) (Mg.mk 4 s r c x4 x5 x6 x7 x8 x9 x10 x11 x12))) W:=fun W=>zCh (zBU (Mg.mk 4 s r c x4 x5 x6 x7 x8 x9 x10 x11 x12)) (Mg.mk 4 s r c x4 x5 x6 x7 x8 x9 x10 x11 x12) W
 have HV:=zAA (show zAG (Mg.mk 4 s r c x4 x5 x6 x7 x8 x9 x10 x11 x12)=eqM (zBU (Mg.mk 4 s r c x4 x5 x6 x7 x8 x9 x10 x11 x12)) (Mg.mk 4 s r c x4 x5 x6 x7 x8 x9 x10 x11 x12)by simp[zAG,zAU,HB10.out])
 generalize eqM (zBU (Mg.mk 4 s r c x4 x5 x6 x7 x8 x9 x10 x11 x12)) (Mg.mk 4 s r c x4 x5 x6 x7 x8 x9 x10 x11 x12)=B at *
 have m0:=HMB.out.cell 0;have m1:=HMB.out.cell 1;have m2:=HMB.out.cell 2;have m3:=HMB.out.cell 3;have m4:=HMB.out.cell 4;have m5:=HMB.out.cell 5;have m6:=HMB.out.cell 6;have m7:=HMB.out.cell 7;have m8:=HMB.out.cell 8;have m9:=HMB.out.cell 9;have m10:=HMB.out.cell 10;have m11:=HMB.out.cell 11;have m12:=HMB.out.cell 12;simp at m0 m1 m2 m3 m4 m5 m6 m7 m8 m9 m10 m11 m12
 have p0:=HPB.out.cell 0;have p1:=HPB.out.cell 1;have p2:=HPB.out.cell 2;have p3:=HPB.out.cell 3;have p4:=HPB.out.cell 4;have p5:=HPB.out.cell 5;have p6:=HPB.out.cell 6;have p7:=HPB.out.cell 7;have p8:=HPB.out.cell 8;have p9:=HPB.out.cell 9;have p10:=HPB.out.cell 10;have p11:=HPB.out.cell 11;have p12:=HPB.out.cell 12;simp at p0 p1 p2 p3 p4 p5 p6 p7 p8 p9 p10 p11 p12
 go_wp2_with fail
 refine wp_region_still_lit (by kernel_rfl) (by kernel_rfl) ?_
 repeat still_step
 refine wpStill_nil ?_
 go_wp2_with fail
 go_ret2
 exact zFn (b1:=b1) (b2:=b2) HV.out (by have:=HD.out;omega) (by have:=HD.out;omega) (by have:=HD.out;omega) HROW.out.drew HX1.out.drew HX2.out.drew HO.out.drew
end
end Go.Proofs.YtfipdjlalfpbnaaGreatDoor
