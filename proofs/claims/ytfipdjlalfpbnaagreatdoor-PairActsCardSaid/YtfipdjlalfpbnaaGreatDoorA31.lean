/-
  Walks and plain words (texts Wqr3, Wqr4, Ws). No condition beyond those that each theorem states.
-/
import Derived.Test.YtfipdjlalfpbnaaGreatDoorA30
namespace Go.Proofs.YtfipdjlalfpbnaaGreatDoor
section
open Go.Proofs.Tryz
set_option maxHeartbeats 12800000
set_option maxRecDepth 100000
open Go.RowKit Go.Deep

theorem zLC(w:World)(s r c:Nat)(x4 x5 x6 x7 x8 x9 x10 x11 x12:ByteArray)(hF:(Mg.mk 3 s r c x4 x5 x6 x7 x8 x9 x10 x11 x12).Fine):Calls prog 49 #[.agg #[.int .i64 3,.int .u32 (s:Nat),.int .u32 (r:Nat),.int .u64 (c:Nat),.string x4,.string x5,.string x6,.string x7,.string x8,.string x9,.string x10,.string x11,.string x12]] w (zAn (zAG (Mg.mk 3 s r c x4 x5 x6 x7 x8 x9 x10 x11 x12)) w):=by
 obtain⟨hs,hr,hc,hx4,hx5,hx6,hx7,hx8,hx9,hx10,hx11,hx12⟩:=hF
 simp only at hs hr hc hx4 hx5 hx6 hx7 hx8 hx9 hx10 hx11 hx12
 have HTR:=zAA (fun W=>zK2 W s r c x4 x5 x6 x7 x8 x9 x10 x11 x12)
 unfold zBe at HTR
 rw[show(zAU (Mg.mk 3 s r c x4 x5 x6 x7 x8 x9 x10 x11 x12)).length=2 from rfl]at HTR
 have HMB:=zAA (Blk.new w 25 #[.int .i64 3,.int .u32 (s:Nat),.int .u32 (r:Nat),.int .u64 (c:Nat),.string x4,.string x5,.string x6,.string x7,.string x8,.string x9,.string x10,.string x11,.string x12])
 have HO:=zAA ((Only.refl [] w).alloc (.cells #[.int .i64 3,.int .u32 (s:Nat),.int .u32 (r:Nat),.int .u64 (c:Nat),.string x4,.string x5,.string x6,.string x7,.string x8,.string x9,.string x10,.string x11,.string x12] 25))
 have m0:=HMB.out.cell 0;have m1:=HMB.out.cell 1;have m2:=HMB.out.cell 2;have m3:=HMB.out.cell 3;have m4:=HMB.out.cell 4;have m5:=HMB.out.cell 5;have m6:=HMB.out.cell 6;have m7:=HMB.out.cell 7;have m8:=HMB.out.cell 8;have m9:=HMB.out.cell 9;have m10:=HMB.out.cell 10;have m11:=HMB.out.cell 11;have m12:=HMB.out.cell 12;simp at m0 m1 m2 m3 m4 m5 m6 m7 m8 m9 m10 m11 m12
 go_enter func49,ntmps49
 go_upto_region 5 with (go_at_call 106;refine(HTR.out _).mono ?_;rintro e v0 ⟨g,rfl,hg,hb,ho⟩;have HTB:=zAA (show Blk v0 g 9 #[.string x8,.string x9]from hb);replace HMB:=zAA (HMB.out.only ho (by simp));replace HO:=zAA (HO.out.trans ho);clear hg hb ho m0 m1 m2 m3 m4 m5 m6 m7 m8 m9 m10 m11 m12)
 refine wp_loop_rounds 3 ?_
 rw[rounds_succ]
 have cj:=HTB.out.cell 0;simp at cj
 by_cases hz:65535<x8.size
 case pos =>
  have hzI:(65535:Int)<x8.size:=by omega
  have HV:=zAA (show zAG (Mg.mk 3 s r c x4 x5 x6 x7 x8 x9 x10 x11 x12)=false by simp[zAG,zAU,show zAz x8=false by unfold zAz;rw[decide_eq_false (by omega)];rfl])
  clear hz
  go_wp2_with fail
  go_ret
  exact zBz HV.out HO.out
 have hzI:¬(65535:Int)<x8.size:=by omega
 have HIS:=zAA (fun W=>zAd W x8 hx8)
 unfold zAn at HIS
 cases hp:(zAE x8).isSome
 case false =>
  rw[hp]at HIS
  have HV:=zAA (show zAG (Mg.mk 3 s r c x4 x5 x6 x7 x8 x9 x10 x11 x12)=false by simp[zAG,zAU,show zAz x8=false by unfold zAz;rw[hp,Bool.and_false]])
  clear hz hp
  go_wp2_with (go_at_call 18;refine(HIS.out _).mono ?_;rintro e w3 ⟨rfl,ho⟩;replace HO:=zAA (HO.out.trans ho);clear ho)
  go_ret
  exact zBz HV.out HO.out
 rw[hp]at HIS
 have HB8:=zAA (show zAz x8=true by unfold zAz;rw[hp,Bool.and_true];exact decide_eq_true (by omega))
 clear hz hp
 go_wp2_with (go_at_call 18;refine(HIS.out _).mono ?_;rintro e v1 ⟨rfl,ho⟩;replace HMB:=zAA (HMB.out.only ho (by simp));replace HTB:=zAA (HTB.out.only ho (by simp));replace HO:=zAA (HO.out.trans ho);clear ho)
 clear cj HIS hzI
 rw[rounds_succ]
 have cj:=HTB.out.cell 1;simp at cj
 by_cases hz:65535<x9.size
 case pos =>
  have hzI:(65535:Int)<x9.size:=by omega
  have HV:=zAA (show zAG (Mg.mk 3 s r c x4 x5 x6 x7 x8 x9 x10 x11 x12)=false by simp[zAG,zAU,show zAz x9=false by unfold zAz;rw[decide_eq_false (by omega)];rfl])
  clear hz
  go_wp2_with fail
  go_ret
  exact zBz HV.out HO.out
 have hzI:¬(65535:Int)<x9.size:=by omega
 have HIS:=zAA (fun W=>zAd W x9 hx9)
 unfold zAn at HIS
 cases hp:(zAE x9).isSome
 case false =>
  rw[hp]at HIS
  have HV:=zAA (show zAG (Mg.mk 3 s r c x4 x5 x6 x7 x8 x9 x10 x11 x12)=false by simp[zAG,zAU,show zAz x9=false by unfold zAz;rw[hp,Bool.and_false]])
  clear hz hp
  go_wp2_with (go_at_call 18;refine(HIS.out _).mono ?_;rintro e w3 ⟨rfl,ho⟩;replace HO:=zAA (HO.out.trans ho);clear ho)
  go_ret
  exact zBz HV.out HO.out
 rw[hp]at HIS
 have HB9:=zAA (show zAz x9=true by unfold zAz;rw[hp,Bool.and_true];exact decide_eq_true (by omega))
 clear hz hp
 go_wp2_with (go_at_call 18;refine(HIS.out _).mono ?_;rintro e v2 ⟨rfl,ho⟩;replace HMB:=zAA (HMB.out.only ho (by simp));replace HTB:=zAA (HTB.out.only ho (by simp));replace HO:=zAA (HO.out.trans ho);clear ho)
 clear cj HIS hzI
 rw[rounds_succ]
 have heq:∀W:World,(binOp .eql 25 (.agg #[.int .i64 3,.int .u32 0,.int .u32 (r:Nat),.int .u64 0,.string ⟨#[]⟩,.string ⟨#[]⟩,.string ⟨#[]⟩,.string ⟨#[]⟩,.string x8,.string x9,.string ⟨#[]⟩,.string ⟨#[]⟩,.string ⟨#[]⟩]) (.agg #[.int .i64 3,.int .u32 (s:Nat),.int .u32 (r:Nat),.int .u64 (c:Nat),.string x4,.string x5,.string x6,.string x7,.string x8,.string x9,.string x10,.string x11,.string x12])).run prog W=.ok (.bool (eqM (zBU (Mg.mk 3 s r c x4 x5 x6 x7 x8 x9 x10 x11 x12)) (Mg.mk 3 s r c x4 x5 x6 x7 x8 x9 x10 x11 x12))) W:=fun W=>zCh (zBU (Mg.mk 3 s r c x4 x5 x6 x7 x8 x9 x10 x11 x12)) (Mg.mk 3 s r c x4 x5 x6 x7 x8 x9 x10 x11 x12) W
 have HV:=zAA (show zAG (Mg.mk 3 s r c x4 x5 x6 x7 x8 x9 x10 x11 x12)=eqM (zBU (Mg.mk 3 s r c x4 x5 x6 x7 x8 x9 x10 x11 x12)) (Mg.mk 3 s r c x4 x5 x6 x7 x8 x9 x10 x11 x12)by simp[zAG,zAU,HB8.out,HB9.out])
 generalize eqM (zBU (Mg.mk 3 s r c x4 x5 x6 x7 x8 x9 x10 x11 x12)) (Mg.mk 3 s r c x4 x5 x6 x7 x8 x9 x10 x11 x12)=B at *
 have HW:=zAA (fun W (h0:W.cell? ⟨g,0,none⟩=some (.string x8)) (h1:W.cell? ⟨g,1,none⟩=some (.string x9))=>zMm W s r c g 0 2 x8 x9 (by omega) (by first|exact h0|simpa using h0) (by first|exact h1|simpa using h1))
 go_wp2_with fail
 refine wp_region_held_drew (S:=fun W=>Only [] v2 W) (by kernel_rfl) (by exact(Only.refl [] v2).drew) (fun hHeld=>?_)
 refine wpAnyH_take (i:=0) (v:=?_) rfl (by kernel_rfl) (by kernel_rfl) (by kernel_rfl) (fun _ _ _ h=>h) (Or.inl ⟨by rfl,?_⟩) (by assumption) ?_
 rotate_left
 ·(intro w hSw;(try dsimp only at hSw);go_simp;try with_reducible rfl)
 try simp only[List.getElem_toArray,List.getElem_cons_zero,Act.put,List.setIfInBounds_toArray,List.set_cons_zero,List.set_cons_succ]
 refine wpAnyH_take (i:=1) (v:=?_) rfl (by kernel_rfl) (by kernel_rfl) (by kernel_rfl) (fun _ _ _ h=>h) (Or.inl ⟨by rfl,?_⟩) (by assumption) ?_
 rotate_left
 ·(intro w hSw;(try dsimp only at hSw);have HMw:=HMB.out.only hSw (by simp);have m0:=(zAA HMw).out.cell 0;simp at m0;go_simp;try with_reducible rfl)
 try simp only[List.getElem_toArray,List.getElem_cons_succ,List.getElem_cons_zero,Act.put,List.setIfInBounds_toArray,List.set_cons_zero,List.set_cons_succ]
 refine wpAnyH_take (i:=2) (v:=?_) rfl (by kernel_rfl) (by kernel_rfl) (by kernel_rfl) (fun _ _ _ h=>h) (Or.inl ⟨by rfl,?_⟩) (by assumption) ?_
 rotate_left
 ·(intro w hSw;(try dsimp only at hSw);go_simp;try with_reducible rfl)
 try simp only[List.getElem_toArray,List.getElem_cons_succ,List.getElem_cons_zero,Act.put,List.setIfInBounds_toArray,List.set_cons_zero,List.set_cons_succ]
 refine wpAnyH_take (i:=3) (v:=?_) rfl (by kernel_rfl) (by kernel_rfl) (by kernel_rfl) (fun _ _ _ h=>h) (Or.inl ⟨by rfl,?_⟩) (by assumption) ?_
 rotate_left
 ·(intro w hSw;(try dsimp only at hSw);have HMw:=HMB.out.only hSw (by simp);have m1:=(zAA HMw).out.cell 1;simp at m1;go_simp;try with_reducible rfl)
 try simp only[List.getElem_toArray,List.getElem_cons_succ,List.getElem_cons_zero,Act.put,List.setIfInBounds_toArray,List.set_cons_zero,List.set_cons_succ]
 refine wpAnyH_take (i:=4) (v:=?_) rfl (by kernel_rfl) (by kernel_rfl) (by kernel_rfl) (fun _ _ _ h=>h) (Or.inl ⟨by rfl,?_⟩) (by assumption) ?_
 rotate_left
 ·(intro w hSw;(try dsimp only at hSw);go_simp;try with_reducible rfl)
 try simp only[List.getElem_toArray,List.getElem_cons_succ,List.getElem_cons_zero,Act.put,List.setIfInBounds_toArray,List.set_cons_zero,List.set_cons_succ]
 refine wpAnyH_take (i:=5) (v:=?_) rfl (by kernel_rfl) (by kernel_rfl) (by kernel_rfl) (fun _ _ _ h=>h) (Or.inl ⟨by rfl,?_⟩) (by assumption) ?_
 rotate_left
 ·(intro w hSw;(try dsimp only at hSw);have HMw:=HMB.out.only hSw (by simp);have m2:=(zAA HMw).out.cell 2;simp at m2;go_simp;try with_reducible rfl)
 try simp only[List.getElem_toArray,List.getElem_cons_succ,List.getElem_cons_zero,Act.put,List.setIfInBounds_toArray,List.set_cons_zero,List.set_cons_succ]
 refine wpAnyH_take (i:=6) (v:=?_) rfl (by kernel_rfl) (by kernel_rfl) (by kernel_rfl) (fun _ _ _ h=>h) (Or.inl ⟨by rfl,?_⟩) (by assumption) ?_
 rotate_left
 ·(intro w hSw;(try dsimp only at hSw);go_simp;try with_reducible rfl)
 try simp only[List.getElem_toArray,List.getElem_cons_succ,List.getElem_cons_zero,Act.put,List.setIfInBounds_toArray,List.set_cons_zero,List.set_cons_succ]
 refine wpAnyH_take (i:=7) (v:=?_) rfl (by kernel_rfl) (by kernel_rfl) (by kernel_rfl) (fun _ _ _ h=>h) (Or.inl ⟨by rfl,?_⟩) (by assumption) ?_
 rotate_left
 ·(intro w hSw;(try dsimp only at hSw);have HMw:=HMB.out.only hSw (by simp);have m3:=(zAA HMw).out.cell 3;simp at m3;go_simp;try with_reducible rfl)
 try simp only[List.getElem_toArray,List.getElem_cons_succ,List.getElem_cons_zero,Act.put,List.setIfInBounds_toArray,List.set_cons_zero,List.set_cons_succ]
 refine wpAnyH_take (i:=8) (v:=?_) rfl (by kernel_rfl) (by kernel_rfl) (by kernel_rfl) (fun _ _ _ h=>h) (Or.inl ⟨by rfl,?_⟩) (by assumption) ?_
 rotate_left
 ·(intro w hSw;(try dsimp only at hSw);go_simp;try with_reducible rfl)
 try simp only[List.getElem_toArray,List.getElem_cons_succ,List.getElem_cons_zero,Act.put,List.setIfInBounds_toArray,List.set_cons_zero,List.set_cons_succ]
 refine wpAnyH_take (i:=10) (v:=?_) rfl (by kernel_rfl) (by kernel_rfl) (by kernel_rfl) (fun _ _ _ h=>h) (Or.inl ⟨by rfl,?_⟩) (by assumption) ?_
 rotate_left
 ·(intro w hSw;(try dsimp only at hSw);have HMw:=HMB.out.only hSw (by simp);have m0:=(zAA HMw).out.cell 0;have m1:=(zAA HMw).out.cell 1;have m2:=(zAA HMw).out.cell 2;have m3:=(zAA HMw).out.cell 3;have m4:=(zAA HMw).out.cell 4;have m5:=(zAA HMw).out.cell 5;have m6:=(zAA HMw).out.cell 6;have m7:=(zAA HMw).out.cell 7;have m8:=(zAA HMw).out.cell 8;have m9:=(zAA HMw).out.cell 9;have m10:=(zAA HMw).out.cell 10;have m11:=(zAA HMw).out.cell 11;have m12:=(zAA HMw).out.cell 12;simp at m0 m1 m2 m3 m4 m5 m6 m7 m8 m9 m10 m11 m12;go_simp;try with_reducible rfl)
 try simp only[List.getElem_toArray,List.getElem_cons_succ,List.getElem_cons_zero,Act.put,List.setIfInBounds_toArray,List.set_cons_zero,List.set_cons_succ]
 refine wpAnyH_ready (rs:=[9]) (by kernel_rfl) (by simp) ?_
 refine AllReadyH.cons rfl (fun K hK=>?_) AllReadyH.nil
 go_simp
 (go_at_call 47;refine(HW.out _ (by have h:=(HTB.out.only hHeld (by simp)).cell 0;simpa using h) (by have h:=(HTB.out.only hHeld (by simp)).cell 1;simpa using h)).mono ?_;rintro e wz ⟨rfl,ho⟩)
 refine hK.out _ _ (by exact hHeld.trans ho) (fun hHeld=>?_)
 clear hK K ho
 try simp only[List.getElem_toArray,List.getElem_cons_succ,List.getElem_cons_zero,Act.put,List.setIfInBounds_toArray,List.set_cons_zero,List.set_cons_succ]
 refine wpAnyH_take (i:=11) (v:=?_) rfl (by kernel_rfl) (by kernel_rfl) (by kernel_rfl) (fun _ _ _ h=>h) (Or.inl ⟨by rfl,?_⟩) (by assumption) ?_
 rotate_left
 ·(intro w hSw;(try dsimp only at hSw);go_simp;try with_reducible rfl)
 try simp only[List.getElem_toArray,List.getElem_cons_succ,List.getElem_cons_zero,Act.put,List.setIfInBounds_toArray,List.set_cons_zero,List.set_cons_succ]
 refine wpAnyH_take (i:=12) (v:=?_) rfl (by kernel_rfl) (by kernel_rfl) (by kernel_rfl) (fun _ _ _ h=>h) (Or.inl ⟨by rfl,?_⟩) (by assumption) ?_
 rotate_left
 ·(intro w hSw;(try dsimp only at hSw);go_simp;try with_reducible rfl)
 try simp only[List.getElem_toArray,List.getElem_cons_succ,List.getElem_cons_zero,Act.put,List.setIfInBounds_toArray,List.set_cons_zero,List.set_cons_succ]
 refine wpAnyH_done (by kernel_rfl) ?_ _
 go_wp2_with fail
 go_ret
 exact zBz HV.out (HO.out.trans hHeld)
end
section
open Go.Proofs.Tryz
set_option maxHeartbeats 12800000
set_option maxRecDepth 100000
open Go.RowKit Go.Deep

theorem zLD(w:World)(s r c:Nat)(x4 x5 x6 x7 x8 x9 x10 x11 x12:ByteArray)(hF:(Mg.mk 4 s r c x4 x5 x6 x7 x8 x9 x10 x11 x12).Fine):Calls prog 49 #[.agg #[.int .i64 4,.int .u32 (s:Nat),.int .u32 (r:Nat),.int .u64 (c:Nat),.string x4,.string x5,.string x6,.string x7,.string x8,.string x9,.string x10,.string x11,.string x12]] w (zAn (zAG (Mg.mk 4 s r c x4 x5 x6 x7 x8 x9 x10 x11 x12)) w):=by
 obtain⟨hs,hr,hc,hx4,hx5,hx6,hx7,hx8,hx9,hx10,hx11,hx12⟩:=hF
 simp only at hs hr hc hx4 hx5 hx6 hx7 hx8 hx9 hx10 hx11 hx12
 have HTR:=zAA (fun W=>zK3 W s r c x4 x5 x6 x7 x8 x9 x10 x11 x12)
 unfold zBe at HTR
 rw[show(zAU (Mg.mk 4 s r c x4 x5 x6 x7 x8 x9 x10 x11 x12)).length=1 from rfl]at HTR
 have HMB:=zAA (Blk.new w 25 #[.int .i64 4,.int .u32 (s:Nat),.int .u32 (r:Nat),.int .u64 (c:Nat),.string x4,.string x5,.string x6,.string x7,.string x8,.string x9,.string x10,.string x11,.string x12])
 have HO:=zAA ((Only.refl [] w).alloc (.cells #[.int .i64 4,.int .u32 (s:Nat),.int .u32 (r:Nat),.int .u64 (c:Nat),.string x4,.string x5,.string x6,.string x7,.string x8,.string x9,.string x10,.string x11,.string x12] 25))
 have m0:=HMB.out.cell 0;have m1:=HMB.out.cell 1;have m2:=HMB.out.cell 2;have m3:=HMB.out.cell 3;have m4:=HMB.out.cell 4;have m5:=HMB.out.cell 5;have m6:=HMB.out.cell 6;have m7:=HMB.out.cell 7;have m8:=HMB.out.cell 8;have m9:=HMB.out.cell 9;have m10:=HMB.out.cell 10;have m11:=HMB.out.cell 11;have m12:=HMB.out.cell 12;simp at m0 m1 m2 m3 m4 m5 m6 m7 m8 m9 m10 m11 m12
 go_enter func49,ntmps49
 go_upto_region 5 with (go_at_call 106;refine(HTR.out _).mono ?_;rintro e v0 ⟨g,rfl,hg,hb,ho⟩;have HTB:=zAA (show Blk v0 g 9 #[.string x10]from hb);replace HMB:=zAA (HMB.out.only ho (by simp));replace HO:=zAA (HO.out.trans ho);clear hg hb ho m0 m1 m2 m3 m4 m5 m6 m7 m8 m9 m10 m11 m12)
 refine wp_loop_rounds 2 ?_
 rw[rounds_succ]
 have cj:=HTB.out.cell 0;simp at cj
 by_cases hz:65535<x10.size
 case pos =>
  have hzI:(65535:Int)<x10.size:=by omega
  have HV:=zAA (show zAG (Mg.mk 4 s r c x4 x5 x6 x7 x8 x9 x10 x11 x12)=false by simp[zAG,zAU,show zAz x10=false by unfold zAz;rw[decide_eq_false (by omega)];rfl])
  clear hz
  go_wp2_with fail
  go_ret
  exact zBz HV.out HO.out
 have hzI:¬(65535:Int)<x10.size:=by omega
 have HIS:=zAA (fun W=>zAd W x10 hx10)
 unfold zAn at HIS
 cases hp:(zAE x10).isSome
 case false =>
  rw[hp]at HIS
  have HV:=zAA (show zAG (Mg.mk 4 s r c x4 x5 x6 x7 x8 x9 x10 x11 x12)=false by simp[zAG,zAU,show zAz x10=false by unfold zAz;rw[hp,Bool.and_false]])
  clear hz hp
  go_wp2_with (go_at_call 18;refine(HIS.out _).mono ?_;rintro e w3 ⟨rfl,ho⟩;replace HO:=zAA (HO.out.trans ho);clear ho)
  go_ret
  exact zBz HV.out HO.out
 rw[hp]at HIS
 have HB10:=zAA (show zAz x10=true by unfold zAz;rw[hp,Bool.and_true];exact decide_eq_true (by omega))
 clear hz hp
 go_wp2_with (go_at_call 18;refine(HIS.out _).mono ?_;rintro e v1 ⟨rfl,ho⟩;replace HMB:=zAA (HMB.out.only ho (by simp));replace HTB:=zAA (HTB.out.only ho (by simp));replace HO:=zAA (HO.out.trans ho);clear ho)
 clear cj HIS hzI
 rw[rounds_succ]
 have heq:∀W:World,(binOp .eql 25 (.agg #[.int .i64 4,.int .u32 0,.int .u32 (r:Nat),.int .u64 (c:Nat),.string ⟨#[]⟩,.string ⟨#[]⟩,.string ⟨#[]⟩,.string ⟨#[]⟩,.string ⟨#[]⟩,.string ⟨#[]⟩,.string x10,.string ⟨#[]⟩,.string ⟨#[]⟩]) (.agg #[.int .i64 4,.int .u32 (s:Nat),.int .u32 (r:Nat),.int .u64 (c:Nat),.string x4,.string x5,.string x6,.string x7,.string x8,.string x9,.string x10,.string x11,.string x12])).run prog W=.ok (.bool (eqM (zBU (Mg.mk 4 s r c x4 x5 x6 x7 x8 x9 x10 x11 x12)) (Mg.mk 4 s r c x4 x5 x6 x7 x8 x9 x10 x11 x12))) W:=fun W=>zCh (zBU (Mg.mk 4 s r c x4 x5 x6 x7 x8 x9 x10 x11 x12)) (Mg.mk 4 s r c x4 x5 x6 x7 x8 x9 x10 x11 x12) W
 have HV:=zAA (show zAG (Mg.mk 4 s r c x4 x5 x6 x7 x8 x9 x10 x11 x12)=eqM (zBU (Mg.mk 4 s r c x4 x5 x6 x7 x8 x9 x10 x11 x12)) (Mg.mk 4 s r c x4 x5 x6 x7 x8 x9 x10 x11 x12)by simp[zAG,zAU,HB10.out])
 generalize eqM (zBU (Mg.mk 4 s r c x4 x5 x6 x7 x8 x9 x10 x11 x12)) (Mg.mk 4 s r c x4 x5 x6 x7 x8 x9 x10 x11 x12)=B at *
 have HW:=zAA (fun W (h0:W.cell? ⟨g,0,none⟩=some (.string x10))=>zFA W s r c g 0 1 x10 (by omega) (by first|exact h0|simpa using h0))
 go_wp2_with fail
 refine wp_region_held_drew (S:=fun W=>Only [] v1 W) (by kernel_rfl) (by exact(Only.refl [] v1).drew) (fun hHeld=>?_)
 refine wpAnyH_take (i:=0) (v:=?_) rfl (by kernel_rfl) (by kernel_rfl) (by kernel_rfl) (fun _ _ _ h=>h) (Or.inl ⟨by rfl,?_⟩) (by assumption) ?_
 rotate_left
 ·(intro w hSw;(try dsimp only at hSw);go_simp;try with_reducible rfl)
 try simp only[List.getElem_toArray,List.getElem_cons_zero,Act.put,List.setIfInBounds_toArray,List.set_cons_zero,List.set_cons_succ]
 refine wpAnyH_take (i:=1) (v:=?_) rfl (by kernel_rfl) (by kernel_rfl) (by kernel_rfl) (fun _ _ _ h=>h) (Or.inl ⟨by rfl,?_⟩) (by assumption) ?_
 rotate_left
 ·(intro w hSw;(try dsimp only at hSw);have HMw:=HMB.out.only hSw (by simp);have m0:=(zAA HMw).out.cell 0;simp at m0;go_simp;try with_reducible rfl)
 try simp only[List.getElem_toArray,List.getElem_cons_succ,List.getElem_cons_zero,Act.put,List.setIfInBounds_toArray,List.set_cons_zero,List.set_cons_succ]
 refine wpAnyH_take (i:=2) (v:=?_) rfl (by kernel_rfl) (by kernel_rfl) (by kernel_rfl) (fun _ _ _ h=>h) (Or.inl ⟨by rfl,?_⟩) (by assumption) ?_
 rotate_left
 ·(intro w hSw;(try dsimp only at hSw);go_simp;try with_reducible rfl)
 try simp only[List.getElem_toArray,List.getElem_cons_succ,List.getElem_cons_zero,Act.put,List.setIfInBounds_toArray,List.set_cons_zero,List.set_cons_succ]
 refine wpAnyH_take (i:=3) (v:=?_) rfl (by kernel_rfl) (by kernel_rfl) (by kernel_rfl) (fun _ _ _ h=>h) (Or.inl ⟨by rfl,?_⟩) (by assumption) ?_
 rotate_left
 ·(intro w hSw;(try dsimp only at hSw);have HMw:=HMB.out.only hSw (by simp);have m1:=(zAA HMw).out.cell 1;simp at m1;go_simp;try with_reducible rfl)
 try simp only[List.getElem_toArray,List.getElem_cons_succ,List.getElem_cons_zero,Act.put,List.setIfInBounds_toArray,List.set_cons_zero,List.set_cons_succ]
 refine wpAnyH_take (i:=4) (v:=?_) rfl (by kernel_rfl) (by kernel_rfl) (by kernel_rfl) (fun _ _ _ h=>h) (Or.inl ⟨by rfl,?_⟩) (by assumption) ?_
 rotate_left
 ·(intro w hSw;(try dsimp only at hSw);go_simp;try with_reducible rfl)
 try simp only[List.getElem_toArray,List.getElem_cons_succ,List.getElem_cons_zero,Act.put,List.setIfInBounds_toArray,List.set_cons_zero,List.set_cons_succ]
 refine wpAnyH_take (i:=5) (v:=?_) rfl (by kernel_rfl) (by kernel_rfl) (by kernel_rfl) (fun _ _ _ h=>h) (Or.inl ⟨by rfl,?_⟩) (by assumption) ?_
 rotate_left
 ·(intro w hSw;(try dsimp only at hSw);have HMw:=HMB.out.only hSw (by simp);have m2:=(zAA HMw).out.cell 2;simp at m2;go_simp;try with_reducible rfl)
 try simp only[List.getElem_toArray,List.getElem_cons_succ,List.getElem_cons_zero,Act.put,List.setIfInBounds_toArray,List.set_cons_zero,List.set_cons_succ]
 refine wpAnyH_take (i:=6) (v:=?_) rfl (by kernel_rfl) (by kernel_rfl) (by kernel_rfl) (fun _ _ _ h=>h) (Or.inl ⟨by rfl,?_⟩) (by assumption) ?_
 rotate_left
 ·(intro w hSw;(try dsimp only at hSw);go_simp;try with_reducible rfl)
 try simp only[List.getElem_toArray,List.getElem_cons_succ,List.getElem_cons_zero,Act.put,List.setIfInBounds_toArray,List.set_cons_zero,List.set_cons_succ]
 refine wpAnyH_take (i:=7) (v:=?_) rfl (by kernel_rfl) (by kernel_rfl) (by kernel_rfl) (fun _ _ _ h=>h) (Or.inl ⟨by rfl,?_⟩) (by assumption) ?_
 rotate_left
 ·(intro w hSw;(try dsimp only at hSw);have HMw:=HMB.out.only hSw (by simp);have m3:=(zAA HMw).out.cell 3;simp at m3;go_simp;try with_reducible rfl)
 try simp only[List.getElem_toArray,List.getElem_cons_succ,List.getElem_cons_zero,Act.put,List.setIfInBounds_toArray,List.set_cons_zero,List.set_cons_succ]
 refine wpAnyH_take (i:=8) (v:=?_) rfl (by kernel_rfl) (by kernel_rfl) (by kernel_rfl) (fun _ _ _ h=>h) (Or.inl ⟨by rfl,?_⟩) (by assumption) ?_
 rotate_left
 ·(intro w hSw;(try dsimp only at hSw);go_simp;try with_reducible rfl)
 try simp only[List.getElem_toArray,List.getElem_cons_succ,List.getElem_cons_zero,Act.put,List.setIfInBounds_toArray,List.set_cons_zero,List.set_cons_succ]
 refine wpAnyH_take (i:=10) (v:=?_) rfl (by kernel_rfl) (by kernel_rfl) (by kernel_rfl) (fun _ _ _ h=>h) (Or.inl ⟨by rfl,?_⟩) (by assumption) ?_
 rotate_left
 ·(intro w hSw;(try dsimp only at hSw);have HMw:=HMB.out.only hSw (by simp);have m0:=(zAA HMw).out.cell 0;have m1:=(zAA HMw).out.cell 1;have m2:=(zAA HMw).out.cell 2;have m3:=(zAA HMw).out.cell 3;have m4:=(zAA HMw).out.cell 4;have m5:=(zAA HMw).out.cell 5;have m6:=(zAA HMw).out.cell 6;have m7:=(zAA HMw).out.cell 7;have m8:=(zAA HMw).out.cell 8;have m9:=(zAA HMw).out.cell 9;have m10:=(zAA HMw).out.cell 10;have m11:=(zAA HMw).out.cell 11;have m12:=(zAA HMw).out.cell 12;simp at m0 m1 m2 m3 m4 m5 m6 m7 m8 m9 m10 m11 m12;go_simp;try with_reducible rfl)
 try simp only[List.getElem_toArray,List.getElem_cons_succ,List.getElem_cons_zero,Act.put,List.setIfInBounds_toArray,List.set_cons_zero,List.set_cons_succ]
 refine wpAnyH_ready (rs:=[9]) (by kernel_rfl) (by simp) ?_
 refine AllReadyH.cons rfl (fun K hK=>?_) AllReadyH.nil
 go_simp
 (go_at_call 47;refine(HW.out _ (by have h:=(HTB.out.only hHeld (by simp)).cell 0;simpa using h)).mono ?_;rintro e wz ⟨rfl,ho⟩)
 refine hK.out _ _ (by exact hHeld.trans ho) (fun hHeld=>?_)
 clear hK K ho
 try simp only[List.getElem_toArray,List.getElem_cons_succ,List.getElem_cons_zero,Act.put,List.setIfInBounds_toArray,List.set_cons_zero,List.set_cons_succ]
 refine wpAnyH_take (i:=11) (v:=?_) rfl (by kernel_rfl) (by kernel_rfl) (by kernel_rfl) (fun _ _ _ h=>h) (Or.inl ⟨by rfl,?_⟩) (by assumption) ?_
 rotate_left
 ·(intro w hSw;(try dsimp only at hSw);go_simp;try with_reducible rfl)
 try simp only[List.getElem_toArray,List.getElem_cons_succ,List.getElem_cons_zero,Act.put,List.setIfInBounds_toArray,List.set_cons_zero,List.set_cons_succ]
 refine wpAnyH_take (i:=12) (v:=?_) rfl (by kernel_rfl) (by kernel_rfl) (by kernel_rfl) (fun _ _ _ h=>h) (Or.inl ⟨by rfl,?_⟩) (by assumption) ?_
 rotate_left
 ·(intro w hSw;(try dsimp only at hSw);go_simp;try with_reducible rfl)
 try simp only[List.getElem_toArray,List.getElem_cons_succ,List.getElem_cons_zero,Act.put,List.setIfInBounds_toArray,List.set_cons_zero,List.set_cons_succ]
 refine wpAnyH_done (by kernel_rfl) ?_ _
 go_wp2_with fail
 go_ret
 exact zBz HV.out (HO.out.trans hHeld)
end
section
open Go.Proofs.Tryz
set_option maxHeartbeats 12800000
set_option maxRecDepth 100000
open Go.RowKit Go.Deep

theorem zG4(w:World)(m:Mg)(h:¬(1<=m.k∧m.k<=4)):Calls prog 49 #[.agg m.cells] w (zAn (zAG m) w):=by
 have HV:=zAA (zE9 h)
 obtain⟨k,s,r,c,x4,x5,x6,x7,x8,x9,x10,x11,x12⟩:=m
 unfold Mg.cells
 simp only at h ⊢
 have HMB:=zAA (Blk.new w 25 #[.int .i64 k,.int .u32 (s:Nat),.int .u32 (r:Nat),.int .u64 (c:Nat),.string x4,.string x5,.string x6,.string x7,.string x8,.string x9,.string x10,.string x11,.string x12])
 have HO:=zAA ((Only.refl [] w).alloc (.cells #[.int .i64 k,.int .u32 (s:Nat),.int .u32 (r:Nat),.int .u64 (c:Nat),.string x4,.string x5,.string x6,.string x7,.string x8,.string x9,.string x10,.string x11,.string x12] 25))
 have m0:=HMB.out.cell 0;have m1:=HMB.out.cell 1;have m2:=HMB.out.cell 2;have m3:=HMB.out.cell 3;have m4:=HMB.out.cell 4;have m5:=HMB.out.cell 5;have m6:=HMB.out.cell 6;have m7:=HMB.out.cell 7;have m8:=HMB.out.cell 8;have m9:=HMB.out.cell 9;have m10:=HMB.out.cell 10;have m11:=HMB.out.cell 11;have m12:=HMB.out.cell 12;simp at m0 m1 m2 m3 m4 m5 m6 m7 m8 m9 m10 m11 m12
 have hk:(k<1)∨(¬k<1∧4<k):=by omega
 clear h
 rcases hk with hk|⟨hk,hk2⟩
 all_goals
  go_enter func49,ntmps49
  go_wp2_with fail
  go_ret
  exact zBz HV.out HO.out
theorem zFE(w:World)(m:Mg)(hF:m.Fine):Calls prog 49 #[.agg m.cells] w (zAn (zAG m) w):=by
 obtain⟨k,s,r,c,x4,x5,x6,x7,x8,x9,x10,x11,x12⟩:=m
 rcases zMj k with rfl|rfl|rfl|rfl|h
 ·exact zLA w s r c x4 x5 x6 x7 x8 x9 x10 x11 x12 hF
 ·exact zLB w s r c x4 x5 x6 x7 x8 x9 x10 x11 x12 hF
 ·exact zLC w s r c x4 x5 x6 x7 x8 x9 x10 x11 x12 hF
 ·exact zLD w s r c x4 x5 x6 x7 x8 x9 x10 x11 x12 hF
 ·exact zG4 w _ h
end
end Go.Proofs.YtfipdjlalfpbnaaGreatDoor
