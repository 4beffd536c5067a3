/-
  Walks and plain words (texts Pa4). No condition beyond those that each theorem states.
-/
import Derived.Test.YtfipdjlalfpbnaaGreatDoorA23
namespace Go.Proofs.YtfipdjlalfpbnaaGreatDoor
section
open Go.Proofs.Tryz
set_option maxHeartbeats 12800000
set_option maxRecDepth 100000
open Go.RowKit Go.Deep

theorem zIZ(w:World)(g c:Nat)(s1 s2:ByteArray)(lo re:Nat)(beg:Bool)(made:Int)(n:Nat)(L:List Nat)(h:PairIs w g c s1 s2 lo re beg made n)(hws:WinSet w c L)(now:Int)(h1:0<=made)(h2:made<=1125899906842624)(s r cc:Nat)(x4 x5 x6 x7 x8 x9 x10 x11 x12:ByteArray)(hF:(Mg.mk 4 s r cc x4 x5 x6 x7 x8 x9 x10 x11 x12).Fine)(hr:zAG (Mg.mk 4 s r cc x4 x5 x6 x7 x8 x9 x10 x11 x12)=true)(hl:¬r≠lo)(ht:zAc now=true)(ho:¬180000<=zBn made now)(hn:¬18446744073709543423<=cc)(hw:zAu L cc≠0):Calls prog 31 #[.pointer (some ⟨g,0,none⟩),.int .i64 now,.agg #[.int .i64 4,.int .u32 (s:Nat),.int .u32 (r:Nat),.int .u64 (cc:Nat),.string x4,.string x5,.string x6,.string x7,.string x8,.string x9,.string x10,.string x11,.string x12]] w (zA3 g c s1 s2 lo re beg made n (zAj lo made s2 L now ⟨4,s,r,cc,x4,x5,x6,x7,x8,x9,x10,x11,x12⟩) w):=by
 have HV:=zAA (show zAj lo made s2 L now ⟨4,s,r,cc,x4,x5,x6,x7,x8,x9,x10,x11,x12⟩=([],9,L)by unfold zAj;rw[if_neg (fun h=>h ⟨rfl,hr⟩),if_neg hl,if_neg (by rw[ht];decide),if_neg (fun h=>h.elim ho hn),if_pos hw])
 have hgc:g≠c:=by obtain⟨cs,hb⟩:=hws.blk;exact Blk.ne_ h hb (by decide)
 have hmc:w.heap.size≠c:=by have:=hws.lt;omega
 have HT:=zAA (fun W=>zAx now W)
 have HOL:=zAA (fun(ht:zAc now=true) W (hw:PairIs W g c s1 s2 lo re beg made n)=>zBT W g c s1 s2 lo re beg made n hw now h1 h2 ((zAT now).1 ht).1 ((zAT now).1 ht).2)
 have HTM:=zAA (fun W=>zBQ W ⟨4,s,r,cc,x4,x5,x6,x7,x8,x9,x10,x11,x12⟩ hF)
 unfold zAp at HTM
 have HMB:=zAA (Blk.new w 25 #[.int .i64 4,.int .u32 (s:Nat),.int .u32 (r:Nat),.int .u64 (cc:Nat),.string x4,.string x5,.string x6,.string x7,.string x8,.string x9,.string x10,.string x11,.string x12])
 have HO:=zAA ((Only.refl [] w).alloc (.cells #[.int .i64 4,.int .u32 (s:Nat),.int .u32 (r:Nat),.int .u64 (cc:Nat),.string x4,.string x5,.string x6,.string x7,.string x8,.string x9,.string x10,.string x11,.string x12] 25))
 have H:=zAA (PairIs.only h HO.out (by simp))
 have HWS:=zAA (hws.only HO.out (by simp))
 rw[hr]at HTM
 simp only[if_true]at HTM
 have hl1:(zAU (Mg.mk 4 s r cc x4 x5 x6 x7 x8 x9 x10 x11 x12)).length=1:=rfl
 have hlb:((r:Int) != (lo:Int))=false:=by rw[bne_eq_false_iff_eq];omega
 clear hr hl
 rw[ht]at HT
 replace HOL:=zAA (HOL.out ht)
 clear ht
 rw[decide_eq_false ho]at HOL
 have h3:decide ((18446744073709543423:Int)<=cc)=false:=by rw[decide_eq_false_iff_not];omega
 have HCC:=zAA (show cc<18446744073709551616 by omega)
 clear ho hn
 obtain⟨wv,hwv⟩:∃wv,zAu L cc=wv:=⟨_,rfl⟩
 rw[hwv]at hw
 have HWV:=zAA hwv
 have hwb:(wv != 0)=true:=by rw[bne_iff_ne];exact hw
 clear hw hwv
 clear h hws h1 h2
 go_enter func31,ntmps31
 go_upto_region 1 with fail
 generalize (w.alloc (.cells #[.int .i64 4,.int .u32 (s:Nat),.int .u32 (r:Nat),.int .u64 (cc:Nat),.string x4,.string x5,.string x6,.string x7,.string x8,.string x9,.string x10,.string x11,.string x12] 25))=v0 at *
 have c0:=H.out.cell 0;have c1:=H.out.cell 1;have c2:=H.out.cell 2;have c3:=H.out.cell 3;have c4:=H.out.cell 4;have c5:=H.out.cell 5;have c6:=H.out.cell 6;have c7:=H.out.cell 7;simp at c0 c1 c2 c3 c4 c5 c6 c7
 have m0:=HMB.out.cell 0;have m1:=HMB.out.cell 1;have m2:=HMB.out.cell 2;have m3:=HMB.out.cell 3;have m4:=HMB.out.cell 4;have m5:=HMB.out.cell 5;have m6:=HMB.out.cell 6;have m7:=HMB.out.cell 7;have m8:=HMB.out.cell 8;have m9:=HMB.out.cell 9;have m10:=HMB.out.cell 10;have m11:=HMB.out.cell 11;have m12:=HMB.out.cell 12;simp at m0 m1 m2 m3 m4 m5 m6 m7 m8 m9 m10 m11 m12
 go_upto_region 5 with (go_at_call 56;refine(HTM.out _).mono ?_;rintro e v1 ⟨ho,v,rfl,hrd⟩;obtain⟨A2,cp,hv,hcc,hmm⟩:=hrd.form;replace hv:v=.slice A2 1 cp:=hv;subst hv;replace H:=zAA (PairIs.only H.out ho (by simp));replace HWS:=zAA (HWS.out.only ho (by simp));replace HMB:=zAA (HMB.out.only ho (by simp));replace HO:=zAA (HO.out.trans ho);clear ho hrd hcc hmm;(first|(clear c0 c1 c2 c3 c4 c5 c6 c7 m0 m1 m2 m3 m4 m5 m6 m7 m8 m9 m10 m11 m12)|skip);have c0:=H.out.cell 0;have c1:=H.out.cell 1;have c2:=H.out.cell 2;have c3:=H.out.cell 3;have c4:=H.out.cell 4;have c5:=H.out.cell 5;have c6:=H.out.cell 6;have c7:=H.out.cell 7;simp at c0 c1 c2 c3 c4 c5 c6 c7;have m0:=HMB.out.cell 0;have m1:=HMB.out.cell 1;have m2:=HMB.out.cell 2;have m3:=HMB.out.cell 3;have m4:=HMB.out.cell 4;have m5:=HMB.out.cell 5;have m6:=HMB.out.cell 6;have m7:=HMB.out.cell 7;have m8:=HMB.out.cell 8;have m9:=HMB.out.cell 9;have m10:=HMB.out.cell 10;have m11:=HMB.out.cell 11;have m12:=HMB.out.cell 12;simp at m0 m1 m2 m3 m4 m5 m6 m7 m8 m9 m10 m11 m12)
 clear c0 c1 c2 c3 c4 c5 c6 c7 m0 m1 m2 m3 m4 m5 m6 m7 m8 m9 m10 m11 m12
 refine wp_region_held_drew (S:=fun W=>Only [] v1 W) (by kernel_rfl) (by exact(Only.refl [] v1).drew) (fun hHeld=>?_)
 generalize v1.drew=wd5 at *
 refine wpAnyH_take (i:=0) (v:=?_) rfl (by kernel_rfl) (by kernel_rfl) (by kernel_rfl) (fun _ _ _ h=>h) (Or.inl ⟨by rfl,?_⟩) (by assumption) ?_
 rotate_left
 ·(intro w hSw;(try dsimp only at hSw);go_simp;try with_reducible rfl)
 try simp only[List.getElem_toArray,List.getElem_cons_succ,List.getElem_cons_zero,Act.put,List.setIfInBounds_toArray,List.set_cons_zero,List.set_cons_succ]
 refine wpAnyH_take (i:=1) (v:=?_) rfl (by kernel_rfl) (by kernel_rfl) (by kernel_rfl) (fun _ _ _ h=>h) (Or.inl ⟨by rfl,?_⟩) (by assumption) ?_
 rotate_left
 ·(intro w hSw;(try dsimp only at hSw);have HMw:=HMB.out.only hSw (by simp);have m2:=HMw.cell 2;simp at m2;clear HMw;go_simp;try with_reducible rfl)
 try simp only[List.getElem_toArray,List.getElem_cons_succ,List.getElem_cons_zero,Act.put,List.setIfInBounds_toArray,List.set_cons_zero,List.set_cons_succ]
 refine wpAnyH_take (i:=2) (v:=?_) rfl (by kernel_rfl) (by kernel_rfl) (by kernel_rfl) (fun _ _ _ h=>h) (Or.inl ⟨by rfl,?_⟩) (by assumption) ?_
 rotate_left
 ·(intro w hSw;(try dsimp only at hSw);go_simp;try with_reducible rfl)
 try simp only[List.getElem_toArray,List.getElem_cons_succ,List.getElem_cons_zero,Act.put,List.setIfInBounds_toArray,List.set_cons_zero,List.set_cons_succ]
 refine wpAnyH_take (i:=3) (v:=?_) rfl (by kernel_rfl) (by kernel_rfl) (by kernel_rfl) (fun _ _ _ h=>h) (Or.inl ⟨by rfl,?_⟩) (by assumption) ?_
 rotate_left
 ·(intro w hSw;(try dsimp only at hSw);go_simp;try with_reducible rfl)
 try simp only[List.getElem_toArray,List.getElem_cons_succ,List.getElem_cons_zero,Act.put,List.setIfInBounds_toArray,List.set_cons_zero,List.set_cons_succ]
 refine wpAnyH_take (i:=4) (v:=?_) rfl (by kernel_rfl) (by kernel_rfl) (by kernel_rfl) (fun _ _ _ h=>h) (Or.inl ⟨by rfl,?_⟩) (by assumption) ?_
 rotate_left
 ·(intro w hSw;(try dsimp only at hSw);go_simp;try with_reducible rfl)
 try simp only[List.getElem_toArray,List.getElem_cons_succ,List.getElem_cons_zero,Act.put,List.setIfInBounds_toArray,List.set_cons_zero,List.set_cons_succ]
 refine wpAnyH_take (i:=5) (v:=?_) rfl (by kernel_rfl) (by kernel_rfl) (by kernel_rfl) (fun _ _ _ h=>h) (Or.inl ⟨by rfl,?_⟩) (by assumption) ?_
 rotate_left
 ·(intro w hSw;(try dsimp only at hSw);have HPw:=PairIs.only H.out hSw (by simp);have c2:=Blk.cell HPw 2;simp at c2;clear HPw;go_simp;try with_reducible rfl)
 try simp only[List.getElem_toArray,List.getElem_cons_succ,List.getElem_cons_zero,Act.put,List.setIfInBounds_toArray,List.set_cons_zero,List.set_cons_succ]
 refine wpAnyH_take (i:=6) (v:=?_) rfl (by kernel_rfl) (by kernel_rfl) (by kernel_rfl) (fun _ _ _ h=>h) (Or.inl ⟨by rfl,?_⟩) (by assumption) ?_
 rotate_left
 ·(intro w hSw;(try dsimp only at hSw);go_simp;try with_reducible rfl)
 try simp only[List.getElem_toArray,List.getElem_cons_succ,List.getElem_cons_zero,Act.put,List.setIfInBounds_toArray,List.set_cons_zero,List.set_cons_succ]
 refine wpAnyH_take (i:=7) (v:=?_) rfl (by kernel_rfl) (by kernel_rfl) (by kernel_rfl) (fun _ _ _ h=>h) (Or.inl ⟨by rfl,?_⟩) (by assumption) ?_
 rotate_left
 ·(intro w hSw;(try dsimp only at hSw);go_simp;try with_reducible rfl)
 try simp only[List.getElem_toArray,List.getElem_cons_succ,List.getElem_cons_zero,Act.put,List.setIfInBounds_toArray,List.set_cons_zero,List.set_cons_succ]
 refine wpAnyH_done (by kernel_rfl) ?_ _
 replace H:=zAA (PairIs.only H.out hHeld (by simp))
 replace HWS:=zAA (HWS.out.only hHeld (by simp))
 replace HMB:=zAA (HMB.out.only hHeld (by simp))
 replace HO:=zAA (HO.out.trans hHeld)
 have c0:=H.out.cell 0;have c1:=H.out.cell 1;have c2:=H.out.cell 2;have c3:=H.out.cell 3;have c4:=H.out.cell 4;have c5:=H.out.cell 5;have c6:=H.out.cell 6;have c7:=H.out.cell 7;simp at c0 c1 c2 c3 c4 c5 c6 c7
 have m0:=HMB.out.cell 0;have m1:=HMB.out.cell 1;have m2:=HMB.out.cell 2;have m3:=HMB.out.cell 3;have m4:=HMB.out.cell 4;have m5:=HMB.out.cell 5;have m6:=HMB.out.cell 6;have m7:=HMB.out.cell 7;have m8:=HMB.out.cell 8;have m9:=HMB.out.cell 9;have m10:=HMB.out.cell 10;have m11:=HMB.out.cell 11;have m12:=HMB.out.cell 12;simp at m0 m1 m2 m3 m4 m5 m6 m7 m8 m9 m10 m11 m12
 clear hHeld
 go_upto_region 11 with (first|(go_at_call 69;refine(HT.out _).mono ?_;rintro e wz ⟨rfl,rfl⟩)|(go_at_call 71;refine(HOL.out _ H.out).mono ?_;rintro e wz ⟨rfl,rfl⟩))
 clear c0 c1 c2 c3 c4 c5 c6 c7 m0 m1 m2 m3 m4 m5 m6 m7 m8 m9 m10 m11 m12
 refine wp_region_held_drew (S:=fun W=>Only [] wd5 W) (by kernel_rfl) (by exact(Only.refl [] wd5).drew) (fun hHeld=>?_)
 generalize wd5.drew=wd11 at *
 refine wpAnyH_take (i:=0) (v:=?_) rfl (by kernel_rfl) (by kernel_rfl) (by kernel_rfl) (fun _ _ _ h=>h) (Or.inl ⟨by rfl,?_⟩) (by assumption) ?_
 rotate_left
 ·(intro w hSw;(try dsimp only at hSw);go_simp;try with_reducible rfl)
 try simp only[List.getElem_toArray,List.getElem_cons_succ,List.getElem_cons_zero,Act.put,List.setIfInBounds_toArray,List.set_cons_zero,List.set_cons_succ]
 refine wpAnyH_take (i:=1) (v:=?_) rfl (by kernel_rfl) (by kernel_rfl) (by kernel_rfl) (fun _ _ _ h=>h) (Or.inl ⟨by rfl,?_⟩) (by assumption) ?_
 rotate_left
 ·(intro w hSw;(try dsimp only at hSw);go_simp;try with_reducible rfl)
 try simp only[List.getElem_toArray,List.getElem_cons_succ,List.getElem_cons_zero,Act.put,List.setIfInBounds_toArray,List.set_cons_zero,List.set_cons_succ]
 refine wpAnyH_take (i:=2) (v:=?_) rfl (by kernel_rfl) (by kernel_rfl) (by kernel_rfl) (fun _ _ _ h=>h) (Or.inl ⟨by rfl,?_⟩) (by assumption) ?_
 rotate_left
 ·(intro w hSw;(try dsimp only at hSw);go_simp;try with_reducible rfl)
 try simp only[List.getElem_toArray,List.getElem_cons_succ,List.getElem_cons_zero,Act.put,List.setIfInBounds_toArray,List.set_cons_zero,List.set_cons_succ]
 refine wpAnyH_take (i:=3) (v:=?_) rfl (by kernel_rfl) (by kernel_rfl) (by kernel_rfl) (fun _ _ _ h=>h) (Or.inl ⟨by rfl,?_⟩) (by assumption) ?_
 rotate_left
 ·(intro w hSw;(try dsimp only at hSw);have HPw:=PairIs.only H.out hSw (by simp);have c7:=Blk.cell HPw 7;simp at c7;clear HPw;go_simp;try with_reducible rfl)
 try simp only[List.getElem_toArray,List.getElem_cons_succ,List.getElem_cons_zero,Act.put,List.setIfInBounds_toArray,List.set_cons_zero,List.set_cons_succ]
 refine wpAnyH_take (i:=4) (v:=?_) rfl (by kernel_rfl) (by kernel_rfl) (by kernel_rfl) (fun _ _ _ h=>h) (Or.inl ⟨by rfl,?_⟩) (by assumption) ?_
 rotate_left
 ·(intro w hSw;(try dsimp only at hSw);go_simp;try with_reducible rfl)
 try simp only[List.getElem_toArray,List.getElem_cons_succ,List.getElem_cons_zero,Act.put,List.setIfInBounds_toArray,List.set_cons_zero,List.set_cons_succ]
 refine wpAnyH_take (i:=5) (v:=?_) rfl (by kernel_rfl) (by kernel_rfl) (by kernel_rfl) (fun _ _ _ h=>h) (Or.inl ⟨by rfl,?_⟩) (by assumption) ?_
 rotate_left
 ·(intro w hSw;(try dsimp only at hSw);have HMw:=HMB.out.only hSw (by simp);have m3:=HMw.cell 3;simp at m3;clear HMw;go_simp;try with_reducible rfl)
 try simp only[List.getElem_toArray,List.getElem_cons_succ,List.getElem_cons_zero,Act.put,List.setIfInBounds_toArray,List.set_cons_zero,List.set_cons_succ]
 refine wpAnyH_ready (rs:=[6]) (by kernel_rfl) (by simp) ?_
 refine(AllReadyH.cons rfl (fun K hK=>?_) AllReadyH.nil)
 go_simp
 (go_at_call 74;refine(zBO wd11 c L cc (HWS.out.only hHeld (by simp)) HCC.out).mono ?_;rw[HWV.out];rintro e w6 ⟨rfl,hw⟩;have ho:Only [] wd11 w6:=by subst hw;exact Only.refl _ _)
 refine hK.out _ _ (by exact hHeld.trans ho) (fun hHeld=>?_)
 clear hK K ho
 try simp only[List.getElem_toArray,List.getElem_cons_succ,List.getElem_cons_zero,Act.put,List.setIfInBounds_toArray,List.set_cons_zero,List.set_cons_succ]
 refine wpAnyH_take (i:=7) (v:=?_) rfl (by kernel_rfl) (by kernel_rfl) (by kernel_rfl) (fun _ _ _ h=>h) (Or.inl ⟨by rfl,?_⟩) (by assumption) ?_
 rotate_left
 ·(intro w hSw;(try dsimp only at hSw);go_simp;try with_reducible rfl)
 try simp only[List.getElem_toArray,List.getElem_cons_succ,List.getElem_cons_zero,Act.put,List.setIfInBounds_toArray,List.set_cons_zero,List.set_cons_succ]
 refine wpAnyH_take (i:=8) (v:=?_) rfl (by kernel_rfl) (by kernel_rfl) (by kernel_rfl) (fun _ _ _ h=>h) (Or.inl ⟨by rfl,?_⟩) (by assumption) ?_
 rotate_left
 ·(intro w hSw;(try dsimp only at hSw);go_simp;try with_reducible rfl)
 try simp only[List.getElem_toArray,List.getElem_cons_succ,List.getElem_cons_zero,Act.put,List.setIfInBounds_toArray,List.set_cons_zero,List.set_cons_succ]
 refine wpAnyH_done (by kernel_rfl) ?_ _
 skip
 replace H:=zAA (PairIs.only H.out hHeld (by simp))
 replace HWS:=zAA (HWS.out.only hHeld (by simp))
 replace HMB:=zAA (HMB.out.only hHeld (by simp))
 replace HO:=zAA (HO.out.trans hHeld)
 have c0:=H.out.cell 0;have c1:=H.out.cell 1;have c2:=H.out.cell 2;have c3:=H.out.cell 3;have c4:=H.out.cell 4;have c5:=H.out.cell 5;have c6:=H.out.cell 6;have c7:=H.out.cell 7;simp at c0 c1 c2 c3 c4 c5 c6 c7
 have m0:=HMB.out.cell 0;have m1:=HMB.out.cell 1;have m2:=HMB.out.cell 2;have m3:=HMB.out.cell 3;have m4:=HMB.out.cell 4;have m5:=HMB.out.cell 5;have m6:=HMB.out.cell 6;have m7:=HMB.out.cell 7;have m8:=HMB.out.cell 8;have m9:=HMB.out.cell 9;have m10:=HMB.out.cell 10;have m11:=HMB.out.cell 11;have m12:=HMB.out.cell 12;simp at m0 m1 m2 m3 m4 m5 m6 m7 m8 m9 m10 m11 m12
 clear hHeld
 go_wp2_with fail
 go_ret2
 exact zB4 HV.out H.out HWS.out HO.out
theorem zLH(w:World)(g c:Nat)(s1 s2:ByteArray)(lo re:Nat)(beg:Bool)(made:Int)(n:Nat)(L:List Nat)(h:PairIs w g c s1 s2 lo re beg made n)(hws:WinSet w c L)(now:Int)(h1:0<=made)(h2:made<=1125899906842624)(s r cc:Nat)(x4 x5 x6 x7 x8 x9 x10 x11 x12:ByteArray)(hF:(Mg.mk 4 s r cc x4 x5 x6 x7 x8 x9 x10 x11 x12).Fine)(hr:zAG (Mg.mk 4 s r cc x4 x5 x6 x7 x8 x9 x10 x11 x12)=true)(hl:¬r≠lo)(ht:zAc now=true)(ho:¬180000<=zBn made now)(hn:¬18446744073709543423<=cc)(hw:zAu L cc=0)(hk:(zBD x10 s2 cc ⟨#[48]⟩).2≠0):Calls prog 31 #[.pointer (some ⟨g,0,none⟩),.int .i64 now,.agg #[.int .i64 4,.int .u32 (s:Nat),.int .u32 (r:Nat),.int .u64 (cc:Nat),.string x4,.string x5,.string x6,.string x7,.string x8,.string x9,.string x10,.string x11,.string x12]] w (zA3 g c s1 s2 lo re beg made n (zAj lo made s2 L now ⟨4,s,r,cc,x4,x5,x6,x7,x8,x9,x10,x11,x12⟩) w):=by
 have HV:=zAA (show zAj lo made s2 L now ⟨4,s,r,cc,x4,x5,x6,x7,x8,x9,x10,x11,x12⟩=([],8,L)by unfold zAj;rw[if_neg (fun h=>h ⟨rfl,hr⟩),if_neg hl,if_neg (by rw[ht];decide),if_neg (fun h=>h.elim ho hn),if_neg (fun h=>h hw),if_pos hk])
 have hgc:g≠c:=by obtain⟨cs,hb⟩:=hws.blk;exact Blk.ne_ h hb (by decide)
 have hmc:w.heap.size≠c:=by have:=hws.lt;omega
 have HT:=zAA (fun W=>zAx now W)
 have HOL:=zAA (fun(ht:zAc now=true) W (hw:PairIs W g c s1 s2 lo re beg made n)=>zBT W g c s1 s2 lo re beg made n hw now h1 h2 ((zAT now).1 ht).1 ((zAT now).1 ht).2)
 have HTM:=zAA (fun W=>zBQ W ⟨4,s,r,cc,x4,x5,x6,x7,x8,x9,x10,x11,x12⟩ hF)
 unfold zAp at HTM
 have HMB:=zAA (Blk.new w 25 #[.int .i64 4,.int .u32 (s:Nat),.int .u32 (r:Nat),.int .u64 (cc:Nat),.string x4,.string x5,.string x6,.string x7,.string x8,.string x9,.string x10,.string x11,.string x12])
 have HO:=zAA ((Only.refl [] w).alloc (.cells #[.int .i64 4,.int .u32 (s:Nat),.int .u32 (r:Nat),.int .u64 (cc:Nat),.string x4,.string x5,.string x6,.string x7,.string x8,.string x9,.string x10,.string x11,.string x12] 25))
 have H:=zAA (PairIs.only h HO.out (by simp))
 have HWS:=zAA (hws.only HO.out (by simp))
 rw[hr]at HTM
 simp only[if_true]at HTM
 have hl1:(zAU (Mg.mk 4 s r cc x4 x5 x6 x7 x8 x9 x10 x11 x12)).length=1:=rfl
 have hlb:((r:Int) != (lo:Int))=false:=by rw[bne_eq_false_iff_eq];omega
 clear hr hl
 rw[ht]at HT
 replace HOL:=zAA (HOL.out ht)
 clear ht
 rw[decide_eq_false ho]at HOL
 have h3:decide ((18446744073709543423:Int)<=cc)=false:=by rw[decide_eq_false_iff_not];omega
 have HCC:=zAA (show cc<18446744073709551616 by omega)
 clear ho hn
 have HWV:=zAA hw
 clear hw
 have HOP:=zAA (fun W=>zFl W x10 s2 ⟨#[48]⟩ cc hF.x10)
 unfold zCl at HOP
 obtain⟨⟨ot,oc⟩,hoc⟩:∃q,(zBD x10 s2 cc ⟨#[48]⟩)=q:=⟨_,rfl⟩
 rw[hoc]at HOP hk
 have hkb:(oc != 0)=true:=by rw[bne_iff_ne];exact hk
 simp only at HOP
 clear hk hoc
 clear h hws h1 h2
 go_enter func31,ntmps31
 go_upto_region 1 with fail
 generalize (w.alloc (.cells #[.int .i64 4,.int .u32 (s:Nat),.int .u32 (r:Nat),.int .u64 (cc:Nat),.string x4,.string x5,.string x6,.string x7,.string x8,.string x9,.string x10,.string x11,.string x12] 25))=v0 at *
 have c0:=H.out.cell 0;have c1:=H.out.cell 1;have c2:=H.out.cell 2;have c3:=H.out.cell 3;have c4:=H.out.cell 4;have c5:=H.out.cell 5;have c6:=H.out.cell 6;have c7:=H.out.cell 7;simp at c0 c1 c2 c3 c4 c5 c6 c7
 have m0:=HMB.out.cell 0;have m1:=HMB.out.cell 1;have m2:=HMB.out.cell 2;have m3:=HMB.out.cell 3;have m4:=HMB.out.cell 4;have m5:=HMB.out.cell 5;have m6:=HMB.out.cell 6;have m7:=HMB.out.cell 7;have m8:=HMB.out.cell 8;have m9:=HMB.out.cell 9;have m10:=HMB.out.cell 10;have m11:=HMB.out.cell 11;have m12:=HMB.out.cell 12;simp at m0 m1 m2 m3 m4 m5 m6 m7 m8 m9 m10 m11 m12
 go_upto_region 5 with (go_at_call 56;refine(HTM.out _).mono ?_;rintro e v1 ⟨ho,v,rfl,hrd⟩;obtain⟨A2,cp,hv,hcc,hmm⟩:=hrd.form;replace hv:v=.slice A2 1 cp:=hv;subst hv;replace H:=zAA (PairIs.only H.out ho (by simp));replace HWS:=zAA (HWS.out.only ho (by simp));replace HMB:=zAA (HMB.out.only ho (by simp));replace HO:=zAA (HO.out.trans ho);clear ho hrd hcc hmm;(first|(clear c0 c1 c2 c3 c4 c5 c6 c7 m0 m1 m2 m3 m4 m5 m6 m7 m8 m9 m10 m11 m12)|skip);have c0:=H.out.cell 0;have c1:=H.out.cell 1;have c2:=H.out.cell 2;have c3:=H.out.cell 3;have c4:=H.out.cell 4;have c5:=H.out.cell 5;have c6:=H.out.cell 6;have c7:=H.out.cell 7;simp at c0 c1 c2 c3 c4 c5 c6 c7;have m0:=HMB.out.cell 0;have m1:=HMB.out.cell 1;have m2:=HMB.out.cell 2;have m3:=HMB.out.cell 3;have m4:=HMB.out.cell 4;have m5:=HMB.out.cell 5;have m6:=HMB.out.cell 6;have m7:=HMB.out.cell 7;have m8:=HMB.out.cell 8;have m9:=HMB.out.cell 9;have m10:=HMB.out.cell 10;have m11:=HMB.out.cell 11;have m12:=HMB.out.cell 12;simp at m0 m1 m2 m3 m4 m5 m6 m7 m8 m9 m10 m11 m12)
 clear c0 c1 c2 c3 c4 c5 c6 c7 m0 m1 m2 m3 m4 m5 m6 m7 m8 m9 m10 m11 m12
 refine wp_region_held_drew (S:=fun W=>Only [] v1 W) (by kernel_rfl) (by exact(Only.refl [] v1).drew) (fun hHeld=>?_)
 generalize v1.drew=wd5 at *
 refine wpAnyH_take (i:=0) (v:=?_) rfl (by kernel_rfl) (by kernel_rfl) (by kernel_rfl) (fun _ _ _ h=>h) (Or.inl ⟨by rfl,?_⟩) (by assumption) ?_
 rotate_left
 ·(intro w hSw;(try dsimp only at hSw);go_simp;try with_reducible rfl)
 try simp only[List.getElem_toArray,List.getElem_cons_succ,List.getElem_cons_zero,Act.put,List.setIfInBounds_toArray,List.set_cons_zero,List.set_cons_succ]
 refine wpAnyH_take (i:=1) (v:=?_) rfl (by kernel_rfl) (by kernel_rfl) (by kernel_rfl) (fun _ _ _ h=>h) (Or.inl ⟨by rfl,?_⟩) (by assumption) ?_
 rotate_left
 ·(intro w hSw;(try dsimp only at hSw);have HMw:=HMB.out.only hSw (by simp);have m2:=HMw.cell 2;simp at m2;clear HMw;go_simp;try with_reducible rfl)
 try simp only[List.getElem_toArray,List.getElem_cons_succ,List.getElem_cons_zero,Act.put,List.setIfInBounds_toArray,List.set_cons_zero,List.set_cons_succ]
 refine wpAnyH_take (i:=2) (v:=?_) rfl (by kernel_rfl) (by kernel_rfl) (by kernel_rfl) (fun _ _ _ h=>h) (Or.inl ⟨by rfl,?_⟩) (by assumption) ?_
 rotate_left
 ·(intro w hSw;(try dsimp only at hSw);go_simp;try with_reducible rfl)
 try simp only[List.getElem_toArray,List.getElem_cons_succ,List.getElem_cons_zero,Act.put,List.setIfInBounds_toArray,List.set_cons_zero,List.set_cons_succ]
 refine wpAnyH_take (i:=3) (v:=?_) rfl (by kernel_rfl) (by kernel_rfl) (by kernel_rfl) (fun _ _ _ h=>h) (Or.inl ⟨by rfl,?_⟩) (by assumption) ?_
 rotate_left
 ·(intro w hSw;(try dsimp only at hSw);go_simp;try with_reducible rfl)
 try simp only[List.getElem_toArray,List.getElem_cons_succ,List.getElem_cons_zero,Act.put,List.setIfInBounds_toArray,List.set_cons_zero,List.set_cons_succ]
 refine wpAnyH_take (i:=4) (v:=?_) rfl (by kernel_rfl) (by kernel_rfl) (by kernel_rfl) (fun _ _ _ h=>h) (Or.inl ⟨by rfl,?_⟩) (by assumption) ?_
 rotate_left
 ·(intro w hSw;(try dsimp only at hSw);go_simp;try with_reducible rfl)
 try simp only[List.getElem_toArray,List.getElem_cons_succ,List.getElem_cons_zero,Act.put,List.setIfInBounds_toArray,List.set_cons_zero,List.set_cons_succ]
 refine wpAnyH_take (i:=5) (v:=?_) rfl (by kernel_rfl) (by kernel_rfl) (by kernel_rfl) (fun _ _ _ h=>h) (Or.inl ⟨by rfl,?_⟩) (by assumption) ?_
 rotate_left
 ·(intro w hSw;(try dsimp only at hSw);have HPw:=PairIs.only H.out hSw (by simp);have c2:=Blk.cell HPw 2;simp at c2;clear HPw;go_simp;try with_reducible rfl)
 try simp only[List.getElem_toArray,List.getElem_cons_succ,List.getElem_cons_zero,Act.put,List.setIfInBounds_toArray,List.set_cons_zero,List.set_cons_succ]
 refine wpAnyH_take (i:=6) (v:=?_) rfl (by kernel_rfl) (by kernel_rfl) (by kernel_rfl) (fun _ _ _ h=>h) (Or.inl ⟨by rfl,?_⟩) (by assumption) ?_
 rotate_left
 ·(intro w hSw;(try dsimp only at hSw);go_simp;try with_reducible rfl)
 try simp only[List.getElem_toArray,List.getElem_cons_succ,List.getElem_cons_zero,Act.put,List.setIfInBounds_toArray,List.set_cons_zero,List.set_cons_succ]
 refine wpAnyH_take (i:=7) (v:=?_) rfl (by kernel_rfl) (by kernel_rfl) (by kernel_rfl) (fun _ _ _ h=>h) (Or.inl ⟨by rfl,?_⟩) (by assumption) ?_
 rotate_left
 ·(intro w hSw;(try dsimp only at hSw);go_simp;try with_reducible rfl)
 try simp only[List.getElem_toArray,List.getElem_cons_succ,List.getElem_cons_zero,Act.put,List.setIfInBounds_toArray,List.set_cons_zero,List.set_cons_succ]
 refine wpAnyH_done (by kernel_rfl) ?_ _
 replace H:=zAA (PairIs.only H.out hHeld (by simp))
 replace HWS:=zAA (HWS.out.only hHeld (by simp))
 replace HMB:=zAA (HMB.out.only hHeld (by simp))
 replace HO:=zAA (HO.out.trans hHeld)
 have c0:=H.out.cell 0;have c1:=H.out.cell 1;have c2:=H.out.cell 2;have c3:=H.out.cell 3;have c4:=H.out.cell 4;have c5:=H.out.cell 5;have c6:=H.out.cell 6;have c7:=H.out.cell 7;simp at c0 c1 c2 c3 c4 c5 c6 c7
 have m0:=HMB.out.cell 0;have m1:=HMB.out.cell 1;have m2:=HMB.out.cell 2;have m3:=HMB.out.cell 3;have m4:=HMB.out.cell 4;have m5:=HMB.out.cell 5;have m6:=HMB.out.cell 6;have m7:=HMB.out.cell 7;have m8:=HMB.out.cell 8;have m9:=HMB.out.cell 9;have m10:=HMB.out.cell 10;have m11:=HMB.out.cell 11;have m12:=HMB.out.cell 12;simp at m0 m1 m2 m3 m4 m5 m6 m7 m8 m9 m10 m11 m12
 clear hHeld
 go_upto_region 11 with (first|(go_at_call 69;refine(HT.out _).mono ?_;rintro e wz ⟨rfl,rfl⟩)|(go_at_call 71;refine(HOL.out _ H.out).mono ?_;rintro e wz ⟨rfl,rfl⟩))
 clear c0 c1 c2 c3 c4 c5 c6 c7 m0 m1 m2 m3 m4 m5 m6 m7 m8 m9 m10 m11 m12
 refine wp_region_held_drew (S:=fun W=>Only [] wd5 W) (by kernel_rfl) (by exact(Only.refl [] wd5).drew) (fun hHeld=>?_)
 generalize wd5.drew=wd11 at *
 refine wpAnyH_take (i:=0) (v:=?_) rfl (by kernel_rfl) (by kernel_rfl) (by kernel_rfl) (fun _ _ _ h=>h) (Or.inl ⟨by rfl,?_⟩) (by assumption) ?_
 rotate_left
 ·(intro w hSw;(try dsimp only at hSw);go_simp;try with_reducible rfl)
 try simp only[List.getElem_toArray,List.getElem_cons_succ,List.getElem_cons_zero,Act.put,List.setIfInBounds_toArray,List.set_cons_zero,List.set_cons_succ]
 refine wpAnyH_take (i:=1) (v:=?_) rfl (by kernel_rfl) (by kernel_rfl) (by kernel_rfl) (fun _ _ _ h=>h) (Or.inl ⟨by rfl,?_⟩) (by assumption) ?_
 rotate_left
 ·(intro w hSw;(try dsimp only at hSw);go_simp;try with_reducible rfl)
 try simp only[List.getElem_toArray,List.getElem_cons_succ,List.getElem_cons_zero,Act.put,List.setIfInBounds_toArray,List.set_cons_zero,List.set_cons_succ]
 refine wpAnyH_take (i:=2) (v:=?_) rfl (by kernel_rfl) (by kernel_rfl) (by kernel_rfl) (fun _ _ _ h=>h) (Or.inl ⟨by rfl,?_⟩) (by assumption) ?_
 rotate_left
 ·(intro w hSw;(try dsimp only at hSw);go_simp;try with_reducible rfl)
 try simp only[List.getElem_toArray,List.getElem_cons_succ,List.getElem_cons_zero,Act.put,List.setIfInBounds_toArray,List.set_cons_zero,List.set_cons_succ]
 refine wpAnyH_take (i:=3) (v:=?_) rfl (by kernel_rfl) (by kernel_rfl) (by kernel_rfl) (fun _ _ _ h=>h) (Or.inl ⟨by rfl,?_⟩) (by assumption) ?_
 rotate_left
 ·(intro w hSw;(try dsimp only at hSw);have HPw:=PairIs.only H.out hSw (by simp);have c7:=Blk.cell HPw 7;simp at c7;clear HPw;go_simp;try with_reducible rfl)
 try simp only[List.getElem_toArray,List.getElem_cons_succ,List.getElem_cons_zero,Act.put,List.setIfInBounds_toArray,List.set_cons_zero,List.set_cons_succ]
 refine wpAnyH_take (i:=4) (v:=?_) rfl (by kernel_rfl) (by kernel_rfl) (by kernel_rfl) (fun _ _ _ h=>h) (Or.inl ⟨by rfl,?_⟩) (by assumption) ?_
 rotate_left
 ·(intro w hSw;(try dsimp only at hSw);go_simp;try with_reducible rfl)
 try simp only[List.getElem_toArray,List.getElem_cons_succ,List.getElem_cons_zero,Act.put,List.setIfInBounds_toArray,List.set_cons_zero,List.set_cons_succ]
 refine wpAnyH_take (i:=5) (v:=?_) rfl (by kernel_rfl) (by kernel_rfl) (by kernel_rfl) (fun _ _ _ h=>h) (Or.inl ⟨by rfl,?_⟩) (by assumption) ?_
 rotate_left
 ·(intro w hSw;(try dsimp only at hSw);have HMw:=HMB.out.only hSw (by simp);have m3:=HMw.cell 3;simp at m3;clear HMw;go_simp;try with_reducible rfl)
 try simp only[List.getElem_toArray,List.getElem_cons_succ,List.getElem_cons_zero,Act.put,List.setIfInBounds_toArray,List.set_cons_zero,List.set_cons_succ]
 refine wpAnyH_ready (rs:=[6]) (by kernel_rfl) (by simp) ?_
 refine(AllReadyH.cons rfl (fun K hK=>?_) AllReadyH.nil)
 go_simp
 (go_at_call 74;refine(zBO wd11 c L cc (HWS.out.only hHeld (by simp)) HCC.out).mono ?_;rw[HWV.out];rintro e w6 ⟨rfl,hw⟩;have ho:Only [] wd11 w6:=by subst hw;exact Only.refl _ _)
 refine hK.out _ _ (by exact hHeld.trans ho) (fun hHeld=>?_)
 clear hK K ho
 try simp only[List.getElem_toArray,List.getElem_cons_succ,List.getElem_cons_zero,Act.put,List.setIfInBounds_toArray,List.set_cons_zero,List.set_cons_succ]
 refine wpAnyH_take (i:=7) (v:=?_) rfl (by kernel_rfl) (by kernel_rfl) (by kernel_rfl) (fun _ _ _ h=>h) (Or.inl ⟨by rfl,?_⟩) (by assumption) ?_
 rotate_left
 ·(intro w hSw;(try dsimp only at hSw);go_simp;try with_reducible rfl)
 try simp only[List.getElem_toArray,List.getElem_cons_succ,List.getElem_cons_zero,Act.put,List.setIfInBounds_toArray,List.set_cons_zero,List.set_cons_succ]
 refine wpAnyH_take (i:=8) (v:=?_) rfl (by kernel_rfl) (by kernel_rfl) (by kernel_rfl) (fun _ _ _ h=>h) (Or.inl ⟨by rfl,?_⟩) (by assumption) ?_
 rotate_left
 ·(intro w hSw;(try dsimp only at hSw);go_simp;try with_reducible rfl)
 try simp only[List.getElem_toArray,List.getElem_cons_succ,List.getElem_cons_zero,Act.put,List.setIfInBounds_toArray,List.set_cons_zero,List.set_cons_succ]
 refine wpAnyH_done (by kernel_rfl) ?_ _
 skip
 replace H:=zAA (PairIs.only H.out hHeld (by simp))
 replace HWS:=zAA (HWS.out.only hHeld (by simp))
 replace HMB:=zAA (HMB.out.only hHeld (by simp))
 replace HO:=zAA (HO.out.trans hHeld)
 have c0:=H.out.cell 0;have c1:=H.out.cell 1;have c2:=H.out.cell 2;have c3:=H.out.cell 3;have c4:=H.out.cell 4;have c5:=H.out.cell 5;have c6:=H.out.cell 6;have c7:=H.out.cell 7;simp at c0 c1 c2 c3 c4 c5 c6 c7
 have m0:=HMB.out.cell 0;have m1:=HMB.out.cell 1;have m2:=HMB.out.cell 2;have m3:=HMB.out.cell 3;have m4:=HMB.out.cell 4;have m5:=HMB.out.cell 5;have m6:=HMB.out.cell 6;have m7:=HMB.out.cell 7;have m8:=HMB.out.cell 8;have m9:=HMB.out.cell 9;have m10:=HMB.out.cell 10;have m11:=HMB.out.cell 11;have m12:=HMB.out.cell 12;simp at m0 m1 m2 m3 m4 m5 m6 m7 m8 m9 m10 m11 m12
 clear hHeld
 go_upto_region 13 with fail
 clear c0 c1 c2 c3 c4 c5 c6 c7 m0 m1 m2 m3 m4 m5 m6 m7 m8 m9 m10 m11 m12
 refine wp_region_held_drew (S:=fun W=>Only [] w6 W) (by kernel_rfl) (by exact(Only.refl [] w6).drew) (fun hHeld=>?_)
 generalize w6.drew=wd13 at *
 refine wpAnyH_take (i:=0) (v:=?_) rfl (by kernel_rfl) (by kernel_rfl) (by kernel_rfl) (fun _ _ _ h=>h) (Or.inl ⟨by rfl,?_⟩) (by assumption) ?_
 rotate_left
 ·(intro w hSw;(try dsimp only at hSw);go_simp;try with_reducible rfl)
 try simp only[List.getElem_toArray,List.getElem_cons_succ,List.getElem_cons_zero,Act.put,List.setIfInBounds_toArray,List.set_cons_zero,List.set_cons_succ]
 refine wpAnyH_take (i:=1) (v:=?_) rfl (by kernel_rfl) (by kernel_rfl) (by kernel_rfl) (fun _ _ _ h=>h) (Or.inl ⟨by rfl,?_⟩) (by assumption) ?_
 rotate_left
 ·(intro w hSw;(try dsimp only at hSw);have HMw:=HMB.out.only hSw (by simp);have m10:=HMw.cell 10;simp at m10;clear HMw;go_simp;try with_reducible rfl)
 try simp only[List.getElem_toArray,List.getElem_cons_succ,List.getElem_cons_zero,Act.put,List.setIfInBounds_toArray,List.set_cons_zero,List.set_cons_succ]
 refine wpAnyH_take (i:=2) (v:=?_) rfl (by kernel_rfl) (by kernel_rfl) (by kernel_rfl) (fun _ _ _ h=>h) (Or.inl ⟨by rfl,?_⟩) (by assumption) ?_
 rotate_left
 ·(intro w hSw;(try dsimp only at hSw);go_simp;try with_reducible rfl)
 try simp only[List.getElem_toArray,List.getElem_cons_succ,List.getElem_cons_zero,Act.put,List.setIfInBounds_toArray,List.set_cons_zero,List.set_cons_succ]
 refine wpAnyH_take (i:=3) (v:=?_) rfl (by kernel_rfl) (by kernel_rfl) (by kernel_rfl) (fun _ _ _ h=>h) (Or.inl ⟨by rfl,?_⟩) (by assumption) ?_
 rotate_left
 ·(intro w hSw;(try dsimp only at hSw);go_simp;try with_reducible rfl)
 try simp only[List.getElem_toArray,List.getElem_cons_succ,List.getElem_cons_zero,Act.put,List.setIfInBounds_toArray,List.set_cons_zero,List.set_cons_succ]
 refine wpAnyH_take (i:=4) (v:=?_) rfl (by kernel_rfl) (by kernel_rfl) (by kernel_rfl) (fun _ _ _ h=>h) (Or.inl ⟨by rfl,?_⟩) (by assumption) ?_
 rotate_left
 ·(intro w hSw;(try dsimp only at hSw);go_simp;try with_reducible rfl)
 try simp only[List.getElem_toArray,List.getElem_cons_succ,List.getElem_cons_zero,Act.put,List.setIfInBounds_toArray,List.set_cons_zero,List.set_cons_succ]
 refine wpAnyH_take (i:=5) (v:=?_) rfl (by kernel_rfl) (by kernel_rfl) (by kernel_rfl) (fun _ _ _ h=>h) (Or.inl ⟨by rfl,?_⟩) (by assumption) ?_
 rotate_left
 ·(intro w hSw;(try dsimp only at hSw);go_simp;try with_reducible rfl)
 try simp only[List.getElem_toArray,List.getElem_cons_succ,List.getElem_cons_zero,Act.put,List.setIfInBounds_toArray,List.set_cons_zero,List.set_cons_succ]
 refine wpAnyH_take (i:=6) (v:=?_) rfl (by kernel_rfl) (by kernel_rfl) (by kernel_rfl) (fun _ _ _ h=>h) (Or.inl ⟨by rfl,?_⟩) (by assumption) ?_
 rotate_left
 ·(intro w hSw;(try dsimp only at hSw);have HPw:=PairIs.only H.out hSw (by simp);have c1:=Blk.cell HPw 1;simp at c1;clear HPw;go_simp;try with_reducible rfl)
 try simp only[List.getElem_toArray,List.getElem_cons_succ,List.getElem_cons_zero,Act.put,List.setIfInBounds_toArray,List.set_cons_zero,List.set_cons_succ]
 refine wpAnyH_take (i:=7) (v:=?_) rfl (by kernel_rfl) (by kernel_rfl) (by kernel_rfl) (fun _ _ _ h=>h) (Or.inl ⟨by rfl,?_⟩) (by assumption) ?_
 rotate_left
 ·(intro w hSw;(try dsimp only at hSw);go_simp;try with_reducible rfl)
 try simp only[List.getElem_toArray,List.getElem_cons_succ,List.getElem_cons_zero,Act.put,List.setIfInBounds_toArray,List.set_cons_zero,List.set_cons_succ]
 refine wpAnyH_take (i:=8) (v:=?_) rfl (by kernel_rfl) (by kernel_rfl) (by kernel_rfl) (fun _ _ _ h=>h) (Or.inl ⟨by rfl,?_⟩) (by assumption) ?_
 rotate_left
 ·(intro w hSw;(try dsimp only at hSw);have HMw:=HMB.out.only hSw (by simp);have m3:=HMw.cell 3;simp at m3;clear HMw;go_simp;try with_reducible rfl)
 try simp only[List.getElem_toArray,List.getElem_cons_succ,List.getElem_cons_zero,Act.put,List.setIfInBounds_toArray,List.set_cons_zero,List.set_cons_succ]
 refine wpAnyH_ready (rs:=[9]) (by kernel_rfl) (by simp) ?_
 refine(AllReadyH.cons rfl (fun K hK=>?_) AllReadyH.nil)
 go_simp
 (go_at_call 63;refine(HOP.out wd13).mono ?_;rintro e w9 ⟨rfl,ho⟩)
 refine hK.out _ _ (by exact hHeld.trans ho) (fun hHeld=>?_)
 clear hK K ho
 try simp only[List.getElem_toArray,List.getElem_cons_succ,List.getElem_cons_zero,Act.put,List.setIfInBounds_toArray,List.set_cons_zero,List.set_cons_succ]
 refine wpAnyH_take (i:=10) (v:=?_) rfl (by kernel_rfl) (by kernel_rfl) (by kernel_rfl) (fun _ _ _ h=>h) (Or.inl ⟨by rfl,?_⟩) (by assumption) ?_
 rotate_left
 ·(intro w hSw;(try dsimp only at hSw);go_simp;try with_reducible rfl)
 try simp only[List.getElem_toArray,List.getElem_cons_succ,List.getElem_cons_zero,Act.put,List.setIfInBounds_toArray,List.set_cons_zero,List.set_cons_succ]
 refine wpAnyH_take (i:=11) (v:=?_) rfl (by kernel_rfl) (by kernel_rfl) (by kernel_rfl) (fun _ _ _ h=>h) (Or.inl ⟨by rfl,?_⟩) (by assumption) ?_
 rotate_left
 ·(intro w hSw;(try dsimp only at hSw);go_simp;try with_reducible rfl)
 try simp only[List.getElem_toArray,List.getElem_cons_succ,List.getElem_cons_zero,Act.put,List.setIfInBounds_toArray,List.set_cons_zero,List.set_cons_succ]
 refine wpAnyH_take (i:=12) (v:=?_) rfl (by kernel_rfl) (by kernel_rfl) (by kernel_rfl) (fun _ _ _ h=>h) (Or.inl ⟨by rfl,?_⟩) (by assumption) ?_
 rotate_left
 ·(intro w hSw;(try dsimp only at hSw);go_simp;try with_reducible rfl)
 try simp only[List.getElem_toArray,List.getElem_cons_succ,List.getElem_cons_zero,Act.put,List.setIfInBounds_toArray,List.set_cons_zero,List.set_cons_succ]
 refine wpAnyH_take (i:=13) (v:=?_) rfl (by kernel_rfl) (by kernel_rfl) (by kernel_rfl) (fun _ _ _ h=>h) (Or.inl ⟨by rfl,?_⟩) (by assumption) ?_
 rotate_left
 ·(intro w hSw;(try dsimp only at hSw);go_simp;try with_reducible rfl)
 try simp only[List.getElem_toArray,List.getElem_cons_succ,List.getElem_cons_zero,Act.put,List.setIfInBounds_toArray,List.set_cons_zero,List.set_cons_succ]
 refine wpAnyH_take (i:=14) (v:=?_) rfl (by kernel_rfl) (by kernel_rfl) (by kernel_rfl) (fun _ _ _ h=>h) (Or.inl ⟨by rfl,?_⟩) (by assumption) ?_
 rotate_left
 ·(intro w hSw;(try dsimp only at hSw);go_simp;try with_reducible rfl)
 try simp only[List.getElem_toArray,List.getElem_cons_succ,List.getElem_cons_zero,Act.put,List.setIfInBounds_toArray,List.set_cons_zero,List.set_cons_succ]
 refine wpAnyH_done (by kernel_rfl) ?_ _
 replace H:=zAA (PairIs.only H.out hHeld (by simp))
 replace HWS:=zAA (HWS.out.only hHeld (by simp))
 replace HMB:=zAA (HMB.out.only hHeld (by simp))
 replace HO:=zAA (HO.out.trans hHeld)
 have c0:=H.out.cell 0;have c1:=H.out.cell 1;have c2:=H.out.cell 2;have c3:=H.out.cell 3;have c4:=H.out.cell 4;have c5:=H.out.cell 5;have c6:=H.out.cell 6;have c7:=H.out.cell 7;simp at c0 c1 c2 c3 c4 c5 c6 c7
 have m0:=HMB.out.cell 0;have m1:=HMB.out.cell 1;have m2:=HMB.out.cell 2;have m3:=HMB.out.cell 3;have m4:=HMB.out.cell 4;have m5:=HMB.out.cell 5;have m6:=HMB.out.cell 6;have m7:=HMB.out.cell 7;have m8:=HMB.out.cell 8;have m9:=HMB.out.cell 9;have m10:=HMB.out.cell 10;have m11:=HMB.out.cell 11;have m12:=HMB.out.cell 12;simp at m0 m1 m2 m3 m4 m5 m6 m7 m8 m9 m10 m11 m12
 clear hHeld
 go_wp2_with fail
 go_ret2
 exact zB4 HV.out H.out HWS.out HO.out
theorem zGa{t key v:ByteArray}{n:Nat}:(zBD t key n v).1.size<=t.size:=by
 unfold zBD
 cases hp:zAE t with
 | none=>exact Nat.zero_le _
 | some nd =>
  obtain⟨k,m,b,l⟩:=nd
  simp only
  split
  ·exact Nat.zero_le _
  ·split
   ·have h1:=(zCa hp).2.2.2.2.2.2.2.2.1
    rw[List.getD_eq_getElem?_getD]
    rcases hg:l[1]? with _|x
    ·exact Nat.zero_le _
    ·exact h1 x (List.mem_of_getElem? hg)
   ·exact Nat.zero_le _
theorem zJ3(w:World)(g c:Nat)(s1 s2:ByteArray)(lo re:Nat)(beg:Bool)(made:Int)(n:Nat)(L:List Nat)(h:PairIs w g c s1 s2 lo re beg made n)(hws:WinSet w c L)(now:Int)(h1:0<=made)(h2:made<=1125899906842624)(s r cc:Nat)(x4 x5 x6 x7 x8 x9 x10 x11 x12:ByteArray)(hF:(Mg.mk 4 s r cc x4 x5 x6 x7 x8 x9 x10 x11 x12).Fine)(hr:zAG (Mg.mk 4 s r cc x4 x5 x6 x7 x8 x9 x10 x11 x12)=true)(hl:¬r≠lo)(ht:zAc now=true)(ho:¬180000<=zBn made now)(hn:¬18446744073709543423<=cc)(hw:zAu L cc=0)(hk:(zBD x10 s2 cc ⟨#[48]⟩).2=0)(hb:(zEx (zBD x10 s2 cc ⟨#[48]⟩).1).2=false):Calls prog 31 #[.pointer (some ⟨g,0,none⟩),.int .i64 now,.agg #[.int .i64 4,.int .u32 (s:Nat),.int .u32 (r:Nat),.int .u64 (cc:Nat),.string x4,.string x5,.string x6,.string x7,.string x8,.string x9,.string x10,.string x11,.string x12]] w (zA3 g c s1 s2 lo re beg made n (zAj lo made s2 L now ⟨4,s,r,cc,x4,x5,x6,x7,x8,x9,x10,x11,x12⟩) w):=by
 have HV:=zAA (show zAj lo made s2 L now ⟨4,s,r,cc,x4,x5,x6,x7,x8,x9,x10,x11,x12⟩=([],3,L)by unfold zAj;rw[if_neg (fun h=>h ⟨rfl,hr⟩),if_neg hl,if_neg (by rw[ht];decide),if_neg (fun h=>h.elim ho hn),if_neg (fun h=>h hw),if_neg (fun h=>h hk),if_pos hb])
 have hgc:g≠c:=by obtain⟨cs,hb⟩:=hws.blk;exact Blk.ne_ h hb (by decide)
 have hmc:w.heap.size≠c:=by have:=hws.lt;omega
 have HT:=zAA (fun W=>zAx now W)
 have HOL:=zAA (fun(ht:zAc now=true) W (hw:PairIs W g c s1 s2 lo re beg made n)=>zBT W g c s1 s2 lo re beg made n hw now h1 h2 ((zAT now).1 ht).1 ((zAT now).1 ht).2)
 have HTM:=zAA (fun W=>zBQ W ⟨4,s,r,cc,x4,x5,x6,x7,x8,x9,x10,x11,x12⟩ hF)
 unfold zAp at HTM
 have HMB:=zAA (Blk.new w 25 #[.int .i64 4,.int .u32 (s:Nat),.int .u32 (r:Nat),.int .u64 (cc:Nat),.string x4,.string x5,.string x6,.string x7,.string x8,.string x9,.string x10,.string x11,.string x12])
 have HO:=zAA ((Only.refl [] w).alloc (.cells #[.int .i64 4,.int .u32 (s:Nat),.int .u32 (r:Nat),.int .u64 (cc:Nat),.string x4,.string x5,.string x6,.string x7,.string x8,.string x9,.string x10,.string x11,.string x12] 25))
 have H:=zAA (PairIs.only h HO.out (by simp))
 have HWS:=zAA (hws.only HO.out (by simp))
 rw[hr]at HTM
 simp only[if_true]at HTM
 have hl1:(zAU (Mg.mk 4 s r cc x4 x5 x6 x7 x8 x9 x10 x11 x12)).length=1:=rfl
 have hlb:((r:Int) != (lo:Int))=false:=by rw[bne_eq_false_iff_eq];omega
 clear hr hl
 rw[ht]at HT
 replace HOL:=zAA (HOL.out ht)
 clear ht
 rw[decide_eq_false ho]at HOL
 have h3:decide ((18446744073709543423:Int)<=cc)=false:=by rw[decide_eq_false_iff_not];omega
 have HCC:=zAA (show cc<18446744073709551616 by omega)
 clear ho hn
 have HWV:=zAA hw
 clear hw
 have HOP:=zAA (fun W=>zFl W x10 s2 ⟨#[48]⟩ cc hF.x10)
 unfold zCl at HOP
 obtain⟨⟨ot,oc⟩,hoc⟩:∃q,(zBD x10 s2 cc ⟨#[48]⟩)=q:=⟨_,rfl⟩
 rw[hoc]at HOP hk
 simp only at hk
 subst hk
 simp only at HOP
 have hos:ot.size<=maxLen:=by have:=zGa (t:=x10) (key:=s2) (n:=cc) (v:=⟨#[48]⟩);rw[hoc]at this;exact Nat.le_trans this hF.x10
 have HBY:=zAA (fun W=>zGM W ot hos)
 unfold zDd at HBY
 rw[hoc]at hb
 simp only at hb
 obtain⟨⟨bl,bb⟩,hbb⟩:∃q,zEx ot=q:=⟨_,rfl⟩
 rw[hbb]at HBY hb
 simp only at hb HBY
 subst hb
 clear hoc hbb hos
 clear h hws h1 h2
 go_enter func31,ntmps31
 go_upto_region 1 with fail
 generalize (w.alloc (.cells #[.int .i64 4,.int .u32 (s:Nat),.int .u32 (r:Nat),.int .u64 (cc:Nat),.string x4,.string x5,.string x6,.string x7,.string x8,.string x9,.string x10,.string x11,.string x12] 25))=v0 at *
 have c0:=H.out.cell 0;have c1:=H.out.cell 1;have c2:=H.out.cell 2;have c3:=H.out.cell 3;have c4:=H.out.cell 4;have c5:=H.out.cell 5;have c6:=H.out.cell 6;have c7:=H.out.cell 7;simp at c0 c1 c2 c3 c4 c5 c6 c7
 have m0:=HMB.out.cell 0;have m1:=HMB.out.cell 1;have m2:=HMB.out.cell 2;have m3:=HMB.out.cell 3;have m4:=HMB.out.cell 4;have m5:=HMB.out.cell 5;have m6:=HMB.out.cell 6;have m7:=HMB.out.cell 7;have m8:=HMB.out.cell 8;have m9:=HMB.out.cell 9;have m10:=HMB.out.cell 10;have m11:=HMB.out.cell 11;have m12:=HMB.out.cell 12;simp at m0 m1 m2 m3 m4 m5 m6 m7 m8 m9 m10 m11 m12
 go_upto_region 5 with (go_at_call 56;refine(HTM.out _).mono ?_;rintro e v1 ⟨ho,v,rfl,hrd⟩;obtain⟨A2,cp,hv,hcc,hmm⟩:=hrd.form;replace hv:v=.slice A2 1 cp:=hv;subst hv;replace H:=zAA (PairIs.only H.out ho (by simp));replace HWS:=zAA (HWS.out.only ho (by simp));replace HMB:=zAA (HMB.out.only ho (by simp));replace HO:=zAA (HO.out.trans ho);clear ho hrd hcc hmm;(first|(clear c0 c1 c2 c3 c4 c5 c6 c7 m0 m1 m2 m3 m4 m5 m6 m7 m8 m9 m10 m11 m12)|skip);have c0:=H.out.cell 0;have c1:=H.out.cell 1;have c2:=H.out.cell 2;have c3:=H.out.cell 3;have c4:=H.out.cell 4;have c5:=H.out.cell 5;have c6:=H.out.cell 6;have c7:=H.out.cell 7;simp at c0 c1 c2 c3 c4 c5 c6 c7;have m0:=HMB.out.cell 0;have m1:=HMB.out.cell 1;have m2:=HMB.out.cell 2;have m3:=HMB.out.cell 3;have m4:=HMB.out.cell 4;have m5:=HMB.out.cell 5;have m6:=HMB.out.cell 6;have m7:=HMB.out.cell 7;have m8:=HMB.out.cell 8;have m9:=HMB.out.cell 9;have m10:=HMB.out.cell 10;have m11:=HMB.out.cell 11;have m12:=HMB.out.cell 12;simp at m0 m1 m2 m3 m4 m5 m6 m7 m8 m9 m10 m11 m12)
 clear c0 c1 c2 c3 c4 c5 c6 c7 m0 m1 m2 m3 m4 m5 m6 m7 m8 m9 m10 m11 m12
 refine wp_region_held_drew (S:=fun W=>Only [] v1 W) (by kernel_rfl) (by exact(Only.refl [] v1).drew) (fun hHeld=>?_)
 generalize v1.drew=wd5 at *
 refine wpAnyH_take (i:=0) (v:=?_) rfl (by kernel_rfl) (by kernel_rfl) (by kernel_rfl) (fun _ _ _ h=>h) (Or.inl ⟨by rfl,?_⟩) (by assumption) ?_
 rotate_left
 ·(intro w hSw;(try dsimp only at hSw);go_simp;try with_reducible rfl)
 try simp only[List.getElem_toArray,List.getElem_cons_succ,List.getElem_cons_zero,Act.put,List.setIfInBounds_toArray,List.set_cons_zero,List.set_cons_succ]
 refine wpAnyH_take (i:=1) (v:=?_) rfl (by kernel_rfl) (by kernel_rfl) (by kernel_rfl) (fun _ _ _ h=>h) (Or.inl ⟨by rfl,?_⟩) (by assumption) ?_
 rotate_left
 ·(intro w hSw;(try dsimp only at hSw);have HMw:=HMB.out.only hSw (by simp);have m2:=HMw.cell 2;simp at m2;clear HMw;go_simp;try with_reducible rfl)
 try simp only[List.getElem_toArray,List.getElem_cons_succ,List.getElem_cons_zero,Act.put,List.setIfInBounds_toArray,List.set_cons_zero,List.set_cons_succ]
 refine wpAnyH_take (i:=2) (v:=?_) rfl (by kernel_rfl) (by kernel_rfl) (by kernel_rfl) (fun _ _ _ h=>h) (Or.inl ⟨by rfl,?_⟩) (by assumption) ?_
 rotate_left
 ·(intro w hSw;(try dsimp only at hSw);go_simp;try with_reducible rfl)
 try simp only[List.getElem_toArray,List.getElem_cons_succ,List.getElem_cons_zero,Act.put,List.setIfInBounds_toArray,List.set_cons_zero,List.set_cons_succ]
 refine wpAnyH_take (i:=3) (v:=?_) rfl (by kernel_rfl) (by kernel_rfl) (by kernel_rfl) (fun _ _ _ h=>h) (Or.inl ⟨by rfl,?_⟩) (by assumption) ?_
 rotate_left
 ·(intro w hSw;(try dsimp only at hSw);go_simp;try with_reducible rfl)
 try simp only[List.getElem_toArray,List.getElem_cons_succ,List.getElem_cons_zero,Act.put,List.setIfInBounds_toArray,List.set_cons_zero,List.set_cons_succ]
 refine wpAnyH_take (i:=4) (v:=?_) rfl (by kernel_rfl) (by kernel_rfl) (by kernel_rfl) (fun _ _ _ h=>h) (Or.inl ⟨by rfl,?_⟩) (by assumption) ?_
 rotate_left
 ·(intro w hSw;(try dsimp only at hSw);go_simp;try with_reducible rfl)
 try simp only[List.getElem_toArray,List.getElem_cons_succ,List.getElem_cons_zero,Act.put,List.setIfInBounds_toArray,List.set_cons_zero,List.set_cons_succ]
 refine wpAnyH_take (i:=5) (v:=?_) rfl (by kernel_rfl) (by kernel_rfl) (by kernel_rfl) (fun _ _ _ h=>h) (Or.inl ⟨by rfl,?_⟩) (by assumption) ?_
 rotate_left
 ·(intro w hSw;(try dsimp only at hSw);have HPw:=PairIs.only H.out hSw (by simp);have c2:=Blk.cell HPw 2;simp at c2;clear HPw;go_simp;try with_reducible rfl)
 try simp only[List.getElem_toArray,List.getElem_cons_succ,List.getElem_cons_zero,Act.put,List.setIfInBounds_toArray,List.set_cons_zero,List.set_cons_succ]
 refine wpAnyH_take (i:=6) (v:=?_) rfl (by kernel_rfl) (by kernel_rfl) (by kernel_rfl) (fun _ _ _ h=>h) (Or.inl ⟨by rfl,?_⟩) (by assumption) ?_
 rotate_left
 ·(intro w hSw;(try dsimp only at hSw);go_simp;try with_reducible rfl)
 try simp only[List.getElem_toArray,List.getElem_cons_succ,List.getElem_cons_zero,Act.put,List.setIfInBounds_toArray,List.set_cons_zero,List.set_cons_succ]
 refine wpAnyH_take (i:=7) (v:=?_) rfl (by kernel_rfl) (by kernel_rfl) (by kernel_rfl) (fun _ _ _ h=>h) (Or.inl ⟨by rfl,?_⟩) (by assumption) ?_
 rotate_left
 ·(intro w hSw;(try dsimp only at hSw);go_simp;try with_reducible rfl)
 try simp only[List.getElem_toArray,List.getElem_cons_succ,List.getElem_cons_zero,Act.put,List.setIfInBounds_toArray,List.set_cons_zero,List.set_cons_succ]
 refine wpAnyH_done (by kernel_rfl) ?_ _
 replace H:=zAA (PairIs.only H.out hHeld (by simp))
 replace HWS:=zAA (HWS.out.only hHeld (by simp))
 replace HMB:=zAA (HMB.out.only hHeld (by simp))
 replace HO:=zAA (HO.out.trans hHeld)
 have c0:=H.out.cell 0;have c1:=H.out.cell 1;have c2:=H.out.cell 2;have c3:=H.out.cell 3;have c4:=H.out.cell 4;have c5:=H.out.cell 5;have c6:=H.out.cell 6;have c7:=H.out.cell 7;simp at c0 c1 c2 c3 c4 c5 c6 c7
 have m0:=HMB.out.cell 0;have m1:=HMB.out.cell 1;have m2:=HMB.out.cell 2;have m3:=HMB.out.cell 3;have m4:=HMB.out.cell 4;have m5:=HMB.out.cell 5;have m6:=HMB.out.cell 6;have m7:=HMB.out.cell 7;have m8:=HMB.out.cell 8;have m9:=HMB.out.cell 9;have m10:=HMB.out.cell 10;have m11:=HMB.out.cell 11;have m12:=HMB.out.cell 12;simp at m0 m1 m2 m3 m4 m5 m6 m7 m8 m9 m10 m11 m12
 clear hHeld
 go_upto_region 11 with (first|(go_at_call 69;refine(HT.out _).mono ?_;rintro e wz ⟨rfl,rfl⟩)|(go_at_call 71;refine(HOL.out _ H.out).mono ?_;rintro e wz ⟨rfl,rfl⟩))
 clear c0 c1 c2 c3 c4 c5 c6 c7 m0 m1 m2 m3 m4 m5 m6 m7 m8 m9 m10 m11 m12
 refine wp_region_held_drew (S:=fun W=>Only [] wd5 W) (by kernel_rfl) (by exact(Only.refl [] wd5).drew) (fun hHeld=>?_)
 generalize wd5.drew=wd11 at *
 refine wpAnyH_take (i:=0) (v:=?_) rfl (by kernel_rfl) (by kernel_rfl) (by kernel_rfl) (fun _ _ _ h=>h) (Or.inl ⟨by rfl,?_⟩) (by assumption) ?_
 rotate_left
 ·(intro w hSw;(try dsimp only at hSw);go_simp;try with_reducible rfl)
 try simp only[List.getElem_toArray,List.getElem_cons_succ,List.getElem_cons_zero,Act.put,List.setIfInBounds_toArray,List.set_cons_zero,List.set_cons_succ]
 refine wpAnyH_take (i:=1) (v:=?_) rfl (by kernel_rfl) (by kernel_rfl) (by kernel_rfl) (fun _ _ _ h=>h) (Or.inl ⟨by rfl,?_⟩) (by assumption) ?_
 rotate_left
 ·(intro w hSw;(try dsimp only at hSw);go_simp;try with_reducible rfl)
 try simp only[List.getElem_toArray,List.getElem_cons_succ,List.getElem_cons_zero,Act.put,List.setIfInBounds_toArray,List.set_cons_zero,List.set_cons_succ]
 refine wpAnyH_take (i:=2) (v:=?_) rfl (by kernel_rfl) (by kernel_rfl) (by kernel_rfl) (fun _ _ _ h=>h) (Or.inl ⟨by rfl,?_⟩) (by assumption) ?_
 rotate_left
 ·(intro w hSw;(try dsimp only at hSw);go_simp;try with_reducible rfl)
 try simp only[List.getElem_toArray,List.getElem_cons_succ,List.getElem_cons_zero,Act.put,List.setIfInBounds_toArray,List.set_cons_zero,List.set_cons_succ]
 refine wpAnyH_take (i:=3) (v:=?_) rfl (by kernel_rfl) (by kernel_rfl) (by kernel_rfl) (fun _ _ _ h=>h) (Or.inl ⟨by rfl,?_⟩) (by assumption) ?_
 rotate_left
 ·(intro w hSw;(try dsimp only at hSw);have HPw:=PairIs.only H.out hSw (by simp);have c7:=Blk.cell HPw 7;simp at c7;clear HPw;go_simp;try with_reducible rfl)
 try simp only[List.getElem_toArray,List.getElem_cons_succ,List.getElem_cons_zero,Act.put,List.setIfInBounds_toArray,List.set_cons_zero,List.set_cons_succ]
 refine wpAnyH_take (i:=4) (v:=?_) rfl (by kernel_rfl) (by kernel_rfl) (by kernel_rfl) (fun _ _ _ h=>h) (Or.inl ⟨by rfl,?_⟩) (by assumption) ?_
 rotate_left
 ·(intro w hSw;(try dsimp only at hSw);go_simp;try with_reducible rfl)
 try simp only[List.getElem_toArray,List.getElem_cons_succ,List.getElem_cons_zero,Act.put,List.setIfInBounds_toArray,List.set_cons_zero,List.set_cons_succ]
 refine wpAnyH_take (i:=5) (v:=?_) rfl (by kernel_rfl) (by kernel_rfl) (by kernel_rfl) (fun _ _ _ h=>h) (Or.inl ⟨by rfl,?_⟩) (by assumption) ?_
 rotate_left
 ·(intro w hSw;(try dsimp only at hSw);have HMw:=HMB.out.only hSw (by simp);have m3:=HMw.cell 3;simp at m3;clear HMw;go_simp;try with_reducible rfl)
 try simp only[List.getElem_toArray,List.getElem_cons_succ,List.getElem_cons_zero,Act.put,List.setIfInBounds_toArray,List.set_cons_zero,List.set_cons_succ]
 refine wpAnyH_ready (rs:=[6]) (by kernel_rfl) (by simp) ?_
 refine(AllReadyH.cons rfl (fun K hK=>?_) AllReadyH.nil)
 go_simp
 (go_at_call 74;refine(zBO wd11 c L cc (HWS.out.only hHeld (by simp)) HCC.out).mono ?_;rw[HWV.out];rintro e w6 ⟨rfl,hw⟩;have ho:Only [] wd11 w6:=by subst hw;exact Only.refl _ _)
 refine hK.out _ _ (by exact hHeld.trans ho) (fun hHeld=>?_)
 clear hK K ho
 try simp only[List.getElem_toArray,List.getElem_cons_succ,List.getElem_cons_zero,Act.put,List.setIfInBounds_toArray,List.set_cons_zero,List.set_cons_succ]
 refine wpAnyH_take (i:=7) (v:=?_) rfl (by kernel_rfl) (by kernel_rfl) (by kernel_rfl) (fun _ _ _ h=>h) (Or.inl ⟨by rfl,?_⟩) (by assumption) ?_
 rotate_left
 ·(intro w hSw;(try dsimp only at hSw);go_simp;try with_reducible rfl)
 try simp only[List.getElem_toArray,List.getElem_cons_succ,List.getElem_cons_zero,Act.put,List.setIfInBounds_toArray,List.set_cons_zero,List.set_cons_succ]
 refine wpAnyH_take (i:=8) (v:=?_) rfl (by kernel_rfl) (by kernel_rfl) (by kernel_rfl) (fun _ _ _ h=>h) (Or.inl ⟨by rfl,?_⟩) (by assumption) ?_
 rotate_left
 ·(intro w hSw;(try dsimp only at hSw);go_simp;try with_reducible rfl)
 try simp only[List.getElem_toArray,List.getElem_cons_succ,List.getElem_cons_zero,Act.put,List.setIfInBounds_toArray,List.set_cons_zero,List.set_cons_succ]
 refine wpAnyH_done (by kernel_rfl) ?_ _
 skip
 replace H:=zAA (PairIs.only H.out hHeld (by simp))
 replace HWS:=zAA (HWS.out.only hHeld (by simp))
 replace HMB:=zAA (HMB.out.only hHeld (by simp))
 replace HO:=zAA (HO.out.trans hHeld)
 have c0:=H.out.cell 0;have c1:=H.out.cell 1;have c2:=H.out.cell 2;have c3:=H.out.cell 3;have c4:=H.out.cell 4;have c5:=H.out.cell 5;have c6:=H.out.cell 6;have c7:=H.out.cell 7;simp at c0 c1 c2 c3 c4 c5 c6 c7
 have m0:=HMB.out.cell 0;have m1:=HMB.out.cell 1;have m2:=HMB.out.cell 2;have m3:=HMB.out.cell 3;have m4:=HMB.out.cell 4;have m5:=HMB.out.cell 5;have m6:=HMB.out.cell 6;have m7:=HMB.out.cell 7;have m8:=HMB.out.cell 8;have m9:=HMB.out.cell 9;have m10:=HMB.out.cell 10;have m11:=HMB.out.cell 11;have m12:=HMB.out.cell 12;simp at m0 m1 m2 m3 m4 m5 m6 m7 m8 m9 m10 m11 m12
 clear hHeld
 go_upto_region 13 with fail
 clear c0 c1 c2 c3 c4 c5 c6 c7 m0 m1 m2 m3 m4 m5 m6 m7 m8 m9 m10 m11 m12
 refine wp_region_held_drew (S:=fun W=>Only [] w6 W) (by kernel_rfl) (by exact(Only.refl [] w6).drew) (fun hHeld=>?_)
 generalize w6.drew=wd13 at *
 refine wpAnyH_take (i:=0) (v:=?_) rfl (by kernel_rfl) (by kernel_rfl) (by kernel_rfl) (fun _ _ _ h=>h) (Or.inl ⟨by rfl,?_⟩) (by assumption) ?_
 rotate_left
 ·(intro w hSw;(try dsimp only at hSw);go_simp;try with_reducible rfl)
 try simp only[List.getElem_toArray,List.getElem_cons_succ,List.getElem_cons_zero,Act.put,List.setIfInBounds_toArray,List.set_cons_zero,List.set_cons_succ]
 refine wpAnyH_take (i:=1) (v:=?_) rfl (by kernel_rfl) (by kernel_rfl) (by kernel_rfl) (fun _ _ _ h=>h) (Or.inl ⟨by rfl,?_⟩) (by assumption) ?_
 rotate_left
 ·(intro w hSw;(try dsimp only at hSw);have HMw:=HMB.out.only hSw (by simp);have m10:=HMw.cell 10;simp at m10;clear HMw;go_simp;try with_reducible rfl)
 try simp only[List.getElem_toArray,List.getElem_cons_succ,List.getElem_cons_zero,Act.put,List.setIfInBounds_toArray,List.set_cons_zero,List.set_cons_succ]
 refine wpAnyH_take (i:=2) (v:=?_) rfl (by kernel_rfl) (by kernel_rfl) (by kernel_rfl) (fun _ _ _ h=>h) (Or.inl ⟨by rfl,?_⟩) (by assumption) ?_
 rotate_left
 ·(intro w hSw;(try dsimp only at hSw);go_simp;try with_reducible rfl)
 try simp only[List.getElem_toArray,List.getElem_cons_succ,List.getElem_cons_zero,Act.put,List.setIfInBounds_toArray,List.set_cons_zero,List.set_cons_succ]
 refine wpAnyH_take (i:=3) (v:=?_) rfl (by kernel_rfl) (by kernel_rfl) (by kernel_rfl) (fun _ _ _ h=>h) (Or.inl ⟨by rfl,?_⟩) (by assumption) ?_
 rotate_left
 ·(intro w hSw;(try dsimp only at hSw);go_simp;try with_reducible rfl)
 try simp only[List.getElem_toArray,List.getElem_cons_succ,List.getElem_cons_zero,Act.put,List.setIfInBounds_toArray,List.set_cons_zero,List.set_cons_succ]
 refine wpAnyH_take (i:=4) (v:=?_) rfl (by kernel_rfl) (by kernel_rfl) (by kernel_rfl) (fun _ _ _ h=>h) (Or.inl ⟨by rfl,?_⟩) (by assumption) ?_
 rotate_left
 ·(intro w hSw;(try dsimp only at hSw);go_simp;try with_reducible rfl)
 try simp only[List.getElem_toArray,List.getElem_cons_succ,List.getElem_cons_zero,Act.put,List.setIfInBounds_toArray,List.set_cons_zero,List.set_cons_succ]
 refine wpAnyH_take (i:=5) (v:=?_) rfl (by kernel_rfl) (by kernel_rfl) (by kernel_rfl) (fun _ _ _ h=>h) (Or.inl ⟨by rfl,?_⟩) (by assumption) ?_
 rotate_left
 ·(intro w hSw;(try dsimp only at hSw);go_simp;try with_reducible rfl)
 try simp only[List.getElem_toArray,List.getElem_cons_succ,List.getElem_cons_zero,Act.put,List.setIfInBounds_toArray,List.set_cons_zero,List.set_cons_succ]
 refine wpAnyH_take (i:=6) (v:=?_) rfl (by kernel_rfl) (by kernel_rfl) (by kernel_rfl) (fun _ _ _ h=>h) (Or.inl ⟨by rfl,?_⟩) (by assumption) ?_
 rotate_left
 ·(intro w hSw;(try dsimp only at hSw);have HPw:=PairIs.only H.out hSw (by simp);have c1:=Blk.cell HPw 1;simp at c1;clear HPw;go_simp;try with_reducible rfl)
 try simp only[List.getElem_toArray,List.getElem_cons_succ,List.getElem_cons_zero,Act.put,List.setIfInBounds_toArray,List.set_cons_zero,List.set_cons_succ]
 refine wpAnyH_take (i:=7) (v:=?_) rfl (by kernel_rfl) (by kernel_rfl) (by kernel_rfl) (fun _ _ _ h=>h) (Or.inl ⟨by rfl,?_⟩) (by assumption) ?_
 rotate_left
 ·(intro w hSw;(try dsimp only at hSw);go_simp;try with_reducible rfl)
 try simp only[List.getElem_toArray,List.getElem_cons_succ,List.getElem_cons_zero,Act.put,List.setIfInBounds_toArray,List.set_cons_zero,List.set_cons_succ]
 refine wpAnyH_take (i:=8) (v:=?_) rfl (by kernel_rfl) (by kernel_rfl) (by kernel_rfl) (fun _ _ _ h=>h) (Or.inl ⟨by rfl,?_⟩) (by assumption) ?_
 rotate_left
 ·(intro w hSw;(try dsimp only at hSw);have HMw:=HMB.out.only hSw (by simp);have m3:=HMw.cell 3;simp at m3;clear HMw;go_simp;try with_reducible rfl)
 try simp only[List.getElem_toArray,List.getElem_cons_succ,List.getElem_cons_zero,Act.put,List.setIfInBounds_toArray,List.set_cons_zero,List.set_cons_succ]
 refine wpAnyH_ready (rs:=[9]) (by kernel_rfl) (by simp) ?_
 refine(AllReadyH.cons rfl (fun K hK=>?_) AllReadyH.nil)
 go_simp
 (go_at_call 63;refine(HOP.out wd13).mono ?_;rintro e w9 ⟨rfl,ho⟩)
 refine hK.out _ _ (by exact hHeld.trans ho) (fun hHeld=>?_)
 clear hK K ho
 try simp only[List.getElem_toArray,List.getElem_cons_succ,List.getElem_cons_zero,Act.put,List.setIfInBounds_toArray,List.set_cons_zero,List.set_cons_succ]
 refine wpAnyH_take (i:=10) (v:=?_) rfl (by kernel_rfl) (by kernel_rfl) (by kernel_rfl) (fun _ _ _ h=>h) (Or.inl ⟨by rfl,?_⟩) (by assumption) ?_
 rotate_left
 ·(intro w hSw;(try dsimp only at hSw);go_simp;try with_reducible rfl)
 try simp only[List.getElem_toArray,List.getElem_cons_succ,List.getElem_cons_zero,Act.put,List.setIfInBounds_toArray,List.set_cons_zero,List.set_cons_succ]
 refine wpAnyH_take (i:=11) (v:=?_) rfl (by kernel_rfl) (by kernel_rfl) (by kernel_rfl) (fun _ _ _ h=>h) (Or.inl ⟨by rfl,?_⟩) (by assumption) ?_
 rotate_left
 ·(intro w hSw;(try dsimp only at hSw);go_simp;try with_reducible rfl)
 try simp only[List.getElem_toArray,List.getElem_cons_succ,List.getElem_cons_zero,Act.put,List.setIfInBounds_toArray,List.set_cons_zero,List.set_cons_succ]
 refine wpAnyH_take (i:=12) (v:=?_) rfl (by kernel_rfl) (by kernel_rfl) (by kernel_rfl) (fun _ _ _ h=>h) (Or.inl ⟨by rfl,?_⟩) (by assumption) ?_
 rotate_left
 ·(intro w hSw;(try dsimp only at hSw);go_simp;try with_reducible rfl)
 try simp only[List.getElem_toArray,List.getElem_cons_succ,List.getElem_cons_zero,Act.put,List.setIfInBounds_toArray,List.set_cons_zero,List.set_cons_succ]
 refine wpAnyH_take (i:=13) (v:=?_) rfl (by kernel_rfl) (by kernel_rfl) (by kernel_rfl) (fun _ _ _ h=>h) (Or.inl ⟨by rfl,?_⟩) (by assumption) ?_
 rotate_left
 ·(intro w hSw;(try dsimp only at hSw);go_simp;try with_reducible rfl)
 try simp only[List.getElem_toArray,List.getElem_cons_succ,List.getElem_cons_zero,Act.put,List.setIfInBounds_toArray,List.set_cons_zero,List.set_cons_succ]
 refine wpAnyH_take (i:=14) (v:=?_) rfl (by kernel_rfl) (by kernel_rfl) (by kernel_rfl) (fun _ _ _ h=>h) (Or.inl ⟨by rfl,?_⟩) (by assumption) ?_
 rotate_left
 ·(intro w hSw;(try dsimp only at hSw);go_simp;try with_reducible rfl)
 try simp only[List.getElem_toArray,List.getElem_cons_succ,List.getElem_cons_zero,Act.put,List.setIfInBounds_toArray,List.set_cons_zero,List.set_cons_succ]
 refine wpAnyH_done (by kernel_rfl) ?_ _
 replace H:=zAA (PairIs.only H.out hHeld (by simp))
 replace HWS:=zAA (HWS.out.only hHeld (by simp))
 replace HMB:=zAA (HMB.out.only hHeld (by simp))
 replace HO:=zAA (HO.out.trans hHeld)
 have c0:=H.out.cell 0;have c1:=H.out.cell 1;have c2:=H.out.cell 2;have c3:=H.out.cell 3;have c4:=H.out.cell 4;have c5:=H.out.cell 5;have c6:=H.out.cell 6;have c7:=H.out.cell 7;simp at c0 c1 c2 c3 c4 c5 c6 c7
 have m0:=HMB.out.cell 0;have m1:=HMB.out.cell 1;have m2:=HMB.out.cell 2;have m3:=HMB.out.cell 3;have m4:=HMB.out.cell 4;have m5:=HMB.out.cell 5;have m6:=HMB.out.cell 6;have m7:=HMB.out.cell 7;have m8:=HMB.out.cell 8;have m9:=HMB.out.cell 9;have m10:=HMB.out.cell 10;have m11:=HMB.out.cell 11;have m12:=HMB.out.cell 12;simp at m0 m1 m2 m3 m4 m5 m6 m7 m8 m9 m10 m11 m12
 clear hHeld
 go_wp2_with (go_at_call 75;refine(HBY.out _).mono ?_;rintro e wb ⟨bv,rfl,ho,hrd⟩;have HRD:=zAA (hrd [c] (by have:=HWS.out.lt;simp;omega));replace H:=zAA (PairIs.only H.out ho (by simp));replace HWS:=zAA (HWS.out.only ho (by simp));replace HMB:=zAA (HMB.out.only ho (by simp));replace HO:=zAA (HO.out.trans ho);clear ho hrd;(first|(clear c0 c1 c2 c3 c4 c5 c6 c7 m0 m1 m2 m3 m4 m5 m6 m7 m8 m9 m10 m11 m12)|skip);have c0:=H.out.cell 0;have c1:=H.out.cell 1;have c2:=H.out.cell 2;have c3:=H.out.cell 3;have c4:=H.out.cell 4;have c5:=H.out.cell 5;have c6:=H.out.cell 6;have c7:=H.out.cell 7;simp at c0 c1 c2 c3 c4 c5 c6 c7;have m0:=HMB.out.cell 0;have m1:=HMB.out.cell 1;have m2:=HMB.out.cell 2;have m3:=HMB.out.cell 3;have m4:=HMB.out.cell 4;have m5:=HMB.out.cell 5;have m6:=HMB.out.cell 6;have m7:=HMB.out.cell 7;have m8:=HMB.out.cell 8;have m9:=HMB.out.cell 9;have m10:=HMB.out.cell 10;have m11:=HMB.out.cell 11;have m12:=HMB.out.cell 12;simp at m0 m1 m2 m3 m4 m5 m6 m7 m8 m9 m10 m11 m12)
 go_ret2
 exact zB4 HV.out H.out HWS.out HO.out
theorem zJ4(w:World)(g c:Nat)(s1 s2:ByteArray)(lo re:Nat)(beg:Bool)(made:Int)(n:Nat)(L:List Nat)(h:PairIs w g c s1 s2 lo re beg made n)(hws:WinSet w c L)(now:Int)(h1:0<=made)(h2:made<=1125899906842624)(s r cc:Nat)(x4 x5 x6 x7 x8 x9 x10 x11 x12:ByteArray)(hF:(Mg.mk 4 s r cc x4 x5 x6 x7 x8 x9 x10 x11 x12).Fine)(hr:zAG (Mg.mk 4 s r cc x4 x5 x6 x7 x8 x9 x10 x11 x12)=true)(hl:¬r≠lo)(ht:zAc now=true)(ho:¬180000<=zBn made now)(hn:¬18446744073709543423<=cc)(hw:zAu L cc=0)(hk:(zBD x10 s2 cc ⟨#[48]⟩).2=0)(hb:(zEx (zBD x10 s2 cc ⟨#[48]⟩).1).2=true):Calls prog 31 #[.pointer (some ⟨g,0,none⟩),.int .i64 now,.agg #[.int .i64 4,.int .u32 (s:Nat),.int .u32 (r:Nat),.int .u64 (cc:Nat),.string x4,.string x5,.string x6,.string x7,.string x8,.string x9,.string x10,.string x11,.string x12]] w (zA3 g c s1 s2 lo re beg made n (zAj lo made s2 L now ⟨4,s,r,cc,x4,x5,x6,x7,x8,x9,x10,x11,x12⟩) w):=by
 have HV:=zAA (show zAj lo made s2 L now ⟨4,s,r,cc,x4,x5,x6,x7,x8,x9,x10,x11,x12⟩=((zEx (zBD x10 s2 cc ⟨#[48]⟩).1).1,0,zDy L cc)by unfold zAj;rw[if_neg (fun h=>h ⟨rfl,hr⟩),if_neg hl,if_neg (by rw[ht];decide),if_neg (fun h=>h.elim ho hn),if_neg (fun h=>h hw),if_neg (fun h=>h hk),if_neg (by rw[hb];decide)])
 have hgc:g≠c:=by obtain⟨cs,hb⟩:=hws.blk;exact Blk.ne_ h hb (by decide)
 have hmc:w.heap.size≠c:=by have:=hws.lt;omega
 have HT:=zAA (fun W=>zAx now W)
 have HOL:=zAA (fun(ht:zAc now=true) W (hw:PairIs W g c s1 s2 lo re beg made n)=>zBT W g c s1 s2 lo re beg made n hw now h1 h2 ((zAT now).1 ht).1 ((zAT now).1 ht).2)
 have HTM:=zAA (fun W=>zBQ W ⟨4,s,r,cc,x4,x5,x6,x7,x8,x9,x10,x11,x12⟩ hF)
 unfold zAp at HTM
 have HMB:=zAA (Blk.new w 25 #[.int .i64 4,.int .u32 (s:Nat),.int .u32 (r:Nat),.int .u64 (cc:Nat),.string x4,.string x5,.string x6,.string x7,.string x8,.string x9,.string x10,.string x11,.string x12])
 have HO:=zAA ((Only.refl [] w).alloc (.cells #[.int .i64 4,.int .u32 (s:Nat),.int .u32 (r:Nat),.int .u64 (cc:Nat),.string x4,.string x5,.string x6,.string x7,.string x8,.string x9,.string x10,.string x11,.string x12] 25))
 have H:=zAA (PairIs.only h HO.out (by simp))
 have HWS:=zAA (hws.only HO.out (by simp))
 rw[hr]at HTM
 simp only[if_true]at HTM
 have hl1:(zAU (Mg.mk 4 s r cc x4 x5 x6 x7 x8 x9 x10 x11 x12)).length=1:=rfl
 have hlb:((r:Int) != (lo:Int))=false:=by rw[bne_eq_false_iff_eq];omega
 clear hr hl
 rw[ht]at HT
 replace HOL:=zAA (HOL.out ht)
 clear ht
 rw[decide_eq_false ho]at HOL
 have h3:decide ((18446744073709543423:Int)<=cc)=false:=by rw[decide_eq_false_iff_not];omega
 have HCC:=zAA (show cc<18446744073709551616 by omega)
 clear ho hn
 have HWV:=zAA hw
 clear hw
 have HOP:=zAA (fun W=>zFl W x10 s2 ⟨#[48]⟩ cc hF.x10)
 unfold zCl at HOP
 obtain⟨⟨ot,oc⟩,hoc⟩:∃q,(zBD x10 s2 cc ⟨#[48]⟩)=q:=⟨_,rfl⟩
 rw[hoc]at HOP hk
 simp only at hk
 subst hk
 simp only at HOP
 have hos:ot.size<=maxLen:=by have:=zGa (t:=x10) (key:=s2) (n:=cc) (v:=⟨#[48]⟩);rw[hoc]at this;exact Nat.le_trans this hF.x10
 have HBY:=zAA (fun W=>zGM W ot hos)
 unfold zDd at HBY
 rw[hoc]at hb
 simp only at hb
 obtain⟨⟨bl,bb⟩,hbb⟩:∃q,zEx ot=q:=⟨_,rfl⟩
 rw[hbb]at HBY hb
 simp only at hb HBY
 subst hb
 rw[hoc]at HV
 simp only at HV
 rw[hbb]at HV
 simp only at HV
 clear hoc hbb hos
 clear h hws h1 h2
 go_enter func31,ntmps31
 go_upto_region 1 with fail
 generalize (w.alloc (.cells #[.int .i64 4,.int .u32 (s:Nat),.int .u32 (r:Nat),.int .u64 (cc:Nat),.string x4,.string x5,.string x6,.string x7,.string x8,.string x9,.string x10,.string x11,.string x12] 25))=v0 at *
 have c0:=H.out.cell 0;have c1:=H.out.cell 1;have c2:=H.out.cell 2;have c3:=H.out.cell 3;have c4:=H.out.cell 4;have c5:=H.out.cell 5;have c6:=H.out.cell 6;have c7:=H.out.cell 7;simp at c0 c1 c2 c3 c4 c5 c6 c7
 have m0:=HMB.out.cell 0;have m1:=HMB.out.cell 1;have m2:=HMB.out.cell 2;have m3:=HMB.out.cell 3;have m4:=HMB.out.cell 4;have m5:=HMB.out.cell 5;have m6:=HMB.out.cell 6;have m7:=HMB.out.cell 7;have m8:=HMB.out.cell 8;have m9:=HMB.out.cell 9;have m10:=HMB.out.cell 10;have m11:=HMB.out.cell 11;have m12:=HMB.out.cell 12;simp at m0 m1 m2 m3 m4 m5 m6 m7 m8 m9 m10 m11 m12
 go_upto_region 5 with (go_at_call 56;refine(HTM.out _).mono ?_;rintro e v1 ⟨ho,v,rfl,hrd⟩;obtain⟨A2,cp,hv,hcc,hmm⟩:=hrd.form;replace hv:v=.slice A2 1 cp:=hv;subst hv;replace H:=zAA (PairIs.only H.out ho (by simp));replace HWS:=zAA (HWS.out.only ho (by simp));replace HMB:=zAA (HMB.out.only ho (by simp));replace HO:=zAA (HO.out.trans ho);clear ho hrd hcc hmm;(first|(clear c0 c1 c2 c3 c4 c5 c6 c7 m0 m1 m2 m3 m4 m5 m6 m7 m8 m9 m10 m11 m12)|skip);have c0:=H.out.cell 0;have c1:=H.out.cell 1;have c2:=H.out.cell 2;have c3:=H.out.cell 3;have c4:=H.out.cell 4;have c5:=H.out.cell 5;have c6:=H.out.cell 6;have c7:=H.out.cell 7;simp at c0 c1 c2 c3 c4 c5 c6 c7;have m0:=HMB.out.cell 0;have m1:=HMB.out.cell 1;have m2:=HMB.out.cell 2;have m3:=HMB.out.cell 3;have m4:=HMB.out.cell 4;have m5:=HMB.out.cell 5;have m6:=HMB.out.cell 6;have m7:=HMB.out.cell 7;have m8:=HMB.out.cell 8;have m9:=HMB.out.cell 9;have m10:=HMB.out.cell 10;have m11:=HMB.out.cell 11;have m12:=HMB.out.cell 12;simp at m0 m1 m2 m3 m4 m5 m6 m7 m8 m9 m10 m11 m12)
 clear c0 c1 c2 c3 c4 c5 c6 c7 m0 m1 m2 m3 m4 m5 m6 m7 m8 m9 m10 m11 m12
 refine wp_region_held_drew (S:=fun W=>Only [] v1 W) (by kernel_rfl) (by exact(Only.refl [] v1).drew) (fun hHeld=>?_)
 generalize v1.drew=wd5 at *
 refine wpAnyH_take (i:=0) (v:=?_) rfl (by kernel_rfl) (by kernel_rfl) (by kernel_rfl) (fun _ _ _ h=>h) (Or.inl ⟨by rfl,?_⟩) (by assumption) ?_
 rotate_left
 ·(intro w hSw;(try dsimp only at hSw);go_simp;try with_reducible rfl)
 try simp only[List.getElem_toArray,List.getElem_cons_succ,List.getElem_cons_zero,Act.put,List.setIfInBounds_toArray,List.set_cons_zero,List.set_cons_succ]
 refine wpAnyH_take (i:=1) (v:=?_) rfl (by kernel_rfl) (by kernel_rfl) (by kernel_rfl) (fun _ _ _ h=>h) (Or.inl ⟨by rfl,?_⟩) (by assumption) ?_
 rotate_left
 ·(intro w hSw;(try dsimp only at hSw);have HMw:=HMB.out.only hSw (by simp);have m2:=HMw.cell 2;simp at m2;clear HMw;go_simp;try with_reducible rfl)
 try simp only[List.getElem_toArray,List.getElem_cons_succ,List.getElem_cons_zero,Act.put,List.setIfInBounds_toArray,List.set_cons_zero,List.set_cons_succ]
 refine wpAnyH_take (i:=2) (v:=?_) rfl (by kernel_rfl) (by kernel_rfl) (by kernel_rfl) (fun _ _ _ h=>h) (Or.inl ⟨by rfl,?_⟩) (by assumption) ?_
 rotate_left
 ·(intro w hSw;(try dsimp only at hSw);go_simp;try with_reducible rfl)
 try simp only[List.getElem_toArray,List.getElem_cons_succ,List.getElem_cons_zero,Act.put,List.setIfInBounds_toArray,List.set_cons_zero,List.set_cons_succ]
 refine wpAnyH_take (i:=3) (v:=?_) rfl (by kernel_rfl) (by kernel_rfl) (by kernel_rfl) (fun _ _ _ h=>h) (Or.inl ⟨by rfl,?_⟩) (by assumption) ?_
 rotate_left
 ·(intro w hSw;(try dsimp only at hSw);go_simp;try with_reducible rfl)
 try simp only[List.getElem_toArray,List.getElem_cons_succ,List.getElem_cons_zero,Act.put,List.setIfInBounds_toArray,List.set_cons_zero,List.set_cons_succ]
 refine wpAnyH_take (i:=4) (v:=?_) rfl (by kernel_rfl) (by kernel_rfl) (by kernel_rfl) (fun _ _ _ h=>h) (Or.inl ⟨by rfl,?_⟩) (by assumption) ?_
 rotate_left
 ·(intro w hSw;(try dsimp only at hSw);go_simp;try with_reducible rfl)
 try simp only[List.getElem_toArray,List.getElem_cons_succ,List.getElem_cons_zero,Act.put,List.setIfInBounds_toArray,List.set_cons_zero,List.set_cons_succ]
 refine wpAnyH_take (i:=5) (v:=?_) rfl (by kernel_rfl) (by kernel_rfl) (by kernel_rfl) (fun _ _ _ h=>h) (Or.inl ⟨by rfl,?_⟩) (by assumption) ?_
 rotate_left
 ·(intro w hSw;(try dsimp only at hSw);have HPw:=PairIs.only H.out hSw (by simp);have c2:=Blk.cell HPw 2;simp at c2;clear HPw;go_simp;try with_reducible rfl)
 try simp only[List.getElem_toArray,List.getElem_cons_succ,List.getElem_cons_zero,Act.put,List.setIfInBounds_toArray,List.set_cons_zero,List.set_cons_succ]
 refine wpAnyH_take (i:=6) (v:=?_) rfl (by kernel_rfl) (by kernel_rfl) (by kernel_rfl) (fun _ _ _ h=>h) (Or.inl ⟨by rfl,?_⟩) (by assumption) ?_
 rotate_left
 ·(intro w hSw;(try dsimp only at hSw);go_simp;try with_reducible rfl)
 try simp only[List.getElem_toArray,List.getElem_cons_succ,List.getElem_cons_zero,Act.put,List.setIfInBounds_toArray,List.set_cons_zero,List.set_cons_succ]
 refine wpAnyH_take (i:=7) (v:=?_) rfl (by kernel_rfl) (by kernel_rfl) (by kernel_rfl) (fun _ _ _ h=>h) (Or.inl ⟨by rfl,?_⟩) (by assumption) ?_
 rotate_left
 ·(intro w hSw;(try dsimp only at hSw);go_simp;try with_reducible rfl)
 try simp only[List.getElem_toArray,List.getElem_cons_succ,List.getElem_cons_zero,Act.put,List.setIfInBounds_toArray,List.set_cons_zero,List.set_cons_succ]
 refine wpAnyH_done (by kernel_rfl) ?_ _
 replace H:=zAA (PairIs.only H.out hHeld (by simp))
 replace HWS:=zAA (HWS.out.only hHeld (by simp))
 replace HMB:=zAA (HMB.out.only hHeld (by simp))
 replace HO:=zAA (HO.out.trans hHeld)
 have c0:=H.out.cell 0;have c1:=H.out.cell 1;have c2:=H.out.cell 2;have c3:=H.out.cell 3;have c4:=H.out.cell 4;have c5:=H.out.cell 5;have c6:=H.out.cell 6;have c7:=H.out.cell 7;simp at c0 c1 c2 c3 c4 c5 c6 c7
 have m0:=HMB.out.cell 0;have m1:=HMB.out.cell 1;have m2:=HMB.out.cell 2;have m3:=HMB.out.cell 3;have m4:=HMB.out.cell 4;have m5:=HMB.out.cell 5;have m6:=HMB.out.cell 6;have m7:=HMB.out.cell 7;have m8:=HMB.out.cell 8;have m9:=HMB.out.cell 9;have m10:=HMB.out.cell 10;have m11:=HMB.out.cell 11;have m12:=HMB.out.cell 12;simp at m0 m1 m2 m3 m4 m5 m6 m7 m8 m9 m10 m11 m12
 clear hHeld
 go_upto_region 11 with (first|(go_at_call 69;refine(HT.out _).mono ?_;rintro e wz ⟨rfl,rfl⟩)|(go_at_call 71;refine(HOL.out _ H.out).mono ?_;rintro e wz ⟨rfl,rfl⟩))
 clear c0 c1 c2 c3 c4 c5 c6 c7 m0 m1 m2 m3 m4 m5 m6 m7 m8 m9 m10 m11 m12
 refine wp_region_held_drew (S:=fun W=>Only [] wd5 W) (by kernel_rfl) (by exact(Only.refl [] wd5).drew) (fun hHeld=>?_)
 generalize wd5.drew=wd11 at *
 refine wpAnyH_take (i:=0) (v:=?_) rfl (by kernel_rfl) (by kernel_rfl) (by kernel_rfl) (fun _ _ _ h=>h) (Or.inl ⟨by rfl,?_⟩) (by assumption) ?_
 rotate_left
 ·(intro w hSw;(try dsimp only at hSw);go_simp;try with_reducible rfl)
 try simp only[List.getElem_toArray,List.getElem_cons_succ,List.getElem_cons_zero,Act.put,List.setIfInBounds_toArray,List.set_cons_zero,List.set_cons_succ]
 refine wpAnyH_take (i:=1) (v:=?_) rfl (by kernel_rfl) (by kernel_rfl) (by kernel_rfl) (fun _ _ _ h=>h) (Or.inl ⟨by rfl,?_⟩) (by assumption) ?_
 rotate_left
 ·(intro w hSw;(try dsimp only at hSw);go_simp;try with_reducible rfl)
 try simp only[List.getElem_toArray,List.getElem_cons_succ,List.getElem_cons_zero,Act.put,List.setIfInBounds_toArray,List.set_cons_zero,List.set_cons_succ]
 refine wpAnyH_take (i:=2) (v:=?_) rfl (by kernel_rfl) (by kernel_rfl) (by kernel_rfl) (fun _ _ _ h=>h) (Or.inl ⟨by rfl,?_⟩) (by assumption) ?_
 rotate_left
 ·(intro w hSw;(try dsimp only at hSw);go_simp;try with_reducible rfl)
 try simp only[List.getElem_toArray,List.getElem_cons_succ,List.getElem_cons_zero,Act.put,List.setIfInBounds_toArray,List.set_cons_zero,List.set_cons_succ]
 refine wpAnyH_take (i:=3) (v:=?_) rfl (by kernel_rfl) (by kernel_rfl) (by kernel_rfl) (fun _ _ _ h=>h) (Or.inl ⟨by rfl,?_⟩) (by assumption) ?_
 rotate_left
 ·(intro w hSw;(try dsimp only at hSw);have HPw:=PairIs.only H.out hSw (by simp);have c7:=Blk.cell HPw 7;simp at c7;clear HPw;go_simp;try with_reducible rfl)
 try simp only[List.getElem_toArray,List.getElem_cons_succ,List.getElem_cons_zero,Act.put,List.setIfInBounds_toArray,List.set_cons_zero,List.set_cons_succ]
 refine wpAnyH_take (i:=4) (v:=?_) rfl (by kernel_rfl) (by kernel_rfl) (by kernel_rfl) (fun _ _ _ h=>h) (Or.inl ⟨by rfl,?_⟩) (by assumption) ?_
 rotate_left
 ·(intro w hSw;(try dsimp only at hSw);go_simp;try with_reducible rfl)
 try simp only[List.getElem_toArray,List.getElem_cons_succ,List.getElem_cons_zero,Act.put,List.setIfInBounds_toArray,List.set_cons_zero,List.set_cons_succ]
 refine wpAnyH_take (i:=5) (v:=?_) rfl (by kernel_rfl) (by kernel_rfl) (by kernel_rfl) (fun _ _ _ h=>h) (Or.inl ⟨by rfl,?_⟩) (by assumption) ?_
 rotate_left
 ·(intro w hSw;(try dsimp only at hSw);have HMw:=HMB.out.only hSw (by simp);have m3:=HMw.cell 3;simp at m3;clear HMw;go_simp;try with_reducible rfl)
 try simp only[List.getElem_toArray,List.getElem_cons_succ,List.getElem_cons_zero,Act.put,List.setIfInBounds_toArray,List.set_cons_zero,List.set_cons_succ]
 refine wpAnyH_ready (rs:=[6]) (by kernel_rfl) (by simp) ?_
 refine(AllReadyH.cons rfl (fun K hK=>?_) AllReadyH.nil)
 go_simp
 (go_at_call 74;refine(zBO wd11 c L cc (HWS.out.only hHeld (by simp)) HCC.out).mono ?_;rw[HWV.out];rintro e w6 ⟨rfl,hw⟩;have ho:Only [] wd11 w6:=by subst hw;exact Only.refl _ _)
 refine hK.out _ _ (by exact hHeld.trans ho) (fun hHeld=>?_)
 clear hK K ho
 try simp only[List.getElem_toArray,List.getElem_cons_succ,List.getElem_cons_zero,Act.put,List.setIfInBounds_toArray,List.set_cons_zero,List.set_cons_succ]
 refine wpAnyH_take (i:=7) (v:=?_) rfl (by kernel_rfl) (by kernel_rfl) (by kernel_rfl) (fun _ _ _ h=>h) (Or.inl ⟨by rfl,?_⟩) (by assumption) ?_
 rotate_left
 ·(intro w hSw;(try dsimp only at hSw);go_simp;try with_reducible rfl)
 try simp only[List.getElem_toArray,List.getElem_cons_succ,List.getElem_cons_zero,Act.put,List.setIfInBounds_toArray,List.set_cons_zero,List.set_cons_succ]
 refine wpAnyH_take (i:=8) (v:=?_) rfl (by kernel_rfl) (by kernel_rfl) (by kernel_rfl) (fun _ _ _ h=>h) (Or.inl ⟨by rfl,?_⟩) (by assumption) ?_
 rotate_left
 ·(intro w hSw;(try dsimp only at hSw);go_simp;try with_reducible rfl)
 try simp only[List.getElem_toArray,List.getElem_cons_succ,List.getElem_cons_zero,Act.put,List.setIfInBounds_toArray,List.set_cons_zero,List.set_cons_succ]
 refine wpAnyH_done (by kernel_rfl) ?_ _
 skip
 replace H:=zAA (PairIs.only H.out hHeld (by simp))
 replace HWS:=zAA (HWS.out.only hHeld (by simp))
 replace HMB:=zAA (HMB.out.only hHeld (by simp))
 replace HO:=zAA (HO.out.trans hHeld)
 have c0:=H.out.cell 0;have c1:=H.out.cell 1;have c2:=H.out.cell 2;have c3:=H.out.cell 3;have c4:=H.out.cell 4;have c5:=H.out.cell 5;have c6:=H.out.cell 6;have c7:=H.out.cell 7;simp at c0 c1 c2 c3 c4 c5 c6 c7
 have m0:=HMB.out.cell 0;have m1:=HMB.out.cell 1;have m2:=HMB.out.cell 2;have m3:=HMB.out.cell 3;have m4:=HMB.out.cell 4;have m5:=HMB.out.cell 5;have m6:=HMB.out.cell 6;have m7:=HMB.out.cell 7;have m8:=HMB.out.cell 8;have m9:=HMB.out.cell 9;have m10:=HMB.out.cell 10;have m11:=HMB.out.cell 11;have m12:=HMB.out.cell 12;simp at m0 m1 m2 m3 m4 m5 m6 m7 m8 m9 m10 m11 m12
 clear hHeld
 go_upto_region 13 with fail
 clear c0 c1 c2 c3 c4 c5 c6 c7 m0 m1 m2 m3 m4 m5 m6 m7 m8 m9 m10 m11 m12
 refine wp_region_held_drew (S:=fun W=>Only [] w6 W) (by kernel_rfl) (by exact(Only.refl [] w6).drew) (fun hHeld=>?_)
 generalize w6.drew=wd13 at *
 refine wpAnyH_take (i:=0) (v:=?_) rfl (by kernel_rfl) (by kernel_rfl) (by kernel_rfl) (fun _ _ _ h=>h) (Or.inl ⟨by rfl,?_⟩) (by assumption) ?_
 rotate_left
 ·(intro w hSw;(try dsimp only at hSw);go_simp;try with_reducible rfl)
 try simp only[List.getElem_toArray,List.getElem_cons_succ,List.getElem_cons_zero,Act.put,List.setIfInBounds_toArray,List.set_cons_zero,List.set_cons_succ]
 refine wpAnyH_take (i:=1) (v:=?_) rfl (by kernel_rfl) (by kernel_rfl) (by kernel_rfl) (fun _ _ _ h=>h) (Or.inl ⟨by rfl,?_⟩) (by assumption) ?_
 rotate_left
 ·(intro w hSw;(try dsimp only at hSw);have HMw:=HMB.out.only hSw (by simp);have m10:=HMw.cell 10;simp at m10;clear HMw;go_simp;try with_reducible rfl)
 try simp only[List.getElem_toArray,List.getElem_cons_succ,List.getElem_cons_zero,Act.put,List.setIfInBounds_toArray,List.set_cons_zero,List.set_cons_succ]
 refine wpAnyH_take (i:=2) (v:=?_) rfl (by kernel_rfl) (by kernel_rfl) (by kernel_rfl) (fun _ _ _ h=>h) (Or.inl ⟨by rfl,?_⟩) (by assumption) ?_
 rotate_left
 ·(intro w hSw;(try dsimp only at hSw);go_simp;try with_reducible rfl)
 try simp only[List.getElem_toArray,List.getElem_cons_succ,List.getElem_cons_zero,Act.put,List.setIfInBounds_toArray,List.set_cons_zero,List.set_cons_succ]
 refine wpAnyH_take (i:=3) (v:=?_) rfl (by kernel_rfl) (by kernel_rfl) (by kernel_rfl) (fun _ _ _ h=>h) (Or.inl ⟨by rfl,?_⟩) (by assumption) ?_
 rotate_left
 ·(intro w hSw;(try dsimp only at hSw);go_simp;try with_reducible rfl)
 try simp only[List.getElem_toArray,List.getElem_cons_succ,List.getElem_cons_zero,Act.put,List.setIfInBounds_toArray,List.set_cons_zero,List.set_cons_succ]
 refine wpAnyH_take (i:=4) (v:=?_) rfl (by kernel_rfl) (by kernel_rfl) (by kernel_rfl) (fun _ _ _ h=>h) (Or.inl ⟨by rfl,?_⟩) (by assumption) ?_
 rotate_left
 ·(intro w hSw;(try dsimp only at hSw);go_simp;try with_reducible rfl)
 try simp only[List.getElem_toArray,List.getElem_cons_succ,List.getElem_cons_zero,Act.put,List.setIfInBounds_toArray,List.set_cons_zero,List.set_cons_succ]
 refine wpAnyH_take (i:=5) (v:=?_) rfl (by kernel_rfl) (by kernel_rfl) (by kernel_rfl) (fun _ _ _ h=>h) (Or.inl ⟨by rfl,?_⟩) (by assumption) ?_
 rotate_left
 ·(intro w hSw;(try dsimp only at hSw);go_simp;try with_reducible rfl)
 try simp only[List.getElem_toArray,List.getElem_cons_succ,List.getElem_cons_zero,Act.put,List.setIfInBounds_toArray,List.set_cons_zero,List.set_cons_succ]
 refine wpAnyH_take (i:=6) (v:=?_) rfl (by kernel_rfl) (by kernel_rfl) (by kernel_rfl) (fun _ _ _ h=>h) (Or.inl ⟨by rfl,?_⟩) (by assumption) ?_
 rotate_left
 ·(intro w hSw;(try dsimp only at hSw);have HPw:=PairIs.only H.out hSw (by simp);have c1:=Blk.cell HPw 1;simp at c1;clear HPw;go_simp;try with_reducible rfl)
 try simp only[List.getElem_toArray,List.getElem_cons_succ,List.getElem_cons_zero,Act.put,List.setIfInBounds_toArray,List.set_cons_zero,List.set_cons_succ]
 refine wpAnyH_take (i:=7) (v:=?_) rfl (by kernel_rfl) (by kernel_rfl) (by kernel_rfl) (fun _ _ _ h=>h) (Or.inl ⟨by rfl,?_⟩) (by assumption) ?_
 rotate_left
 ·(intro w hSw;(try dsimp only at hSw);go_simp;try with_reducible rfl)
 try simp only[List.getElem_toArray,List.getElem_cons_succ,List.getElem_cons_zero,Act.put,List.setIfInBounds_toArray,List.set_cons_zero,List.set_cons_succ]
 refine wpAnyH_take (i:=8) (v:=?_) rfl (by kernel_rfl) (by kernel_rfl) (by kernel_rfl) (fun _ _ _ h=>h) (Or.inl ⟨by rfl,?_⟩) (by assumption) ?_
 rotate_left
 ·(intro w hSw;(try dsimp only at hSw);have HMw:=HMB.out.only hSw (by simp);have m3:=HMw.cell 3;simp at m3;clear HMw;go_simp;try with_reducible rfl)
 try simp only[List.getElem_toArray,List.getElem_cons_succ,List.getElem_cons_zero,Act.put,List.setIfInBounds_toArray,List.set_cons_zero,List.set_cons_succ]
 refine wpAnyH_ready (rs:=[9]) (by kernel_rfl) (by simp) ?_
 refine(AllReadyH.cons rfl (fun K hK=>?_) AllReadyH.nil)
 go_simp
 (go_at_call 63;refine(HOP.out wd13).mono ?_;rintro e w9 ⟨rfl,ho⟩)
 refine hK.out _ _ (by exact hHeld.trans ho) (fun hHeld=>?_)
 clear hK K ho
 try simp only[List.getElem_toArray,List.getElem_cons_succ,List.getElem_cons_zero,Act.put,List.setIfInBounds_toArray,List.set_cons_zero,List.set_cons_succ]
 refine wpAnyH_take (i:=10) (v:=?_) rfl (by kernel_rfl) (by kernel_rfl) (by kernel_rfl) (fun _ _ _ h=>h) (Or.inl ⟨by rfl,?_⟩) (by assumption) ?_
 rotate_left
 ·(intro w hSw;(try dsimp only at hSw);go_simp;try with_reducible rfl)
 try simp only[List.getElem_toArray,List.getElem_cons_succ,List.getElem_cons_zero,Act.put,List.setIfInBounds_toArray,List.set_cons_zero,List.set_cons_succ]
 refine wpAnyH_take (i:=11) (v:=?_) rfl (by kernel_rfl) (by kernel_rfl) (by kernel_rfl) (fun _ _ _ h=>h) (Or.inl ⟨by rfl,?_⟩) (by assumption) ?_
 rotate_left
 ·(intro w hSw;(try dsimp only at hSw);go_simp;try with_reducible rfl)
 try simp only[List.getElem_toArray,List.getElem_cons_succ,List.getElem_cons_zero,Act.put,List.setIfInBounds_toArray,List.set_cons_zero,List.set_cons_succ]
 refine wpAnyH_take (i:=12) (v:=?_) rfl (by kernel_rfl) (by kernel_rfl) (by kernel_rfl) (fun _ _ _ h=>h) (Or.inl ⟨by rfl,?_⟩) (by assumption) ?_
 rotate_left
 ·(intro w hSw;(try dsimp only at hSw);go_simp;try with_reducible rfl)
 try simp only[List.getElem_toArray,List.getElem_cons_succ,List.getElem_cons_zero,Act.put,List.setIfInBounds_toArray,List.set_cons_zero,List.set_cons_succ]
 refine wpAnyH_take (i:=13) (v:=?_) rfl (by kernel_rfl) (by kernel_rfl) (by kernel_rfl) (fun _ _ _ h=>h) (Or.inl ⟨by rfl,?_⟩) (by assumption) ?_
 rotate_left
 ·(intro w hSw;(try dsimp only at hSw);go_simp;try with_reducible rfl)
 try simp only[List.getElem_toArray,List.getElem_cons_succ,List.getElem_cons_zero,Act.put,List.setIfInBounds_toArray,List.set_cons_zero,List.set_cons_succ]
 refine wpAnyH_take (i:=14) (v:=?_) rfl (by kernel_rfl) (by kernel_rfl) (by kernel_rfl) (fun _ _ _ h=>h) (Or.inl ⟨by rfl,?_⟩) (by assumption) ?_
 rotate_left
 ·(intro w hSw;(try dsimp only at hSw);go_simp;try with_reducible rfl)
 try simp only[List.getElem_toArray,List.getElem_cons_succ,List.getElem_cons_zero,Act.put,List.setIfInBounds_toArray,List.set_cons_zero,List.set_cons_succ]
 refine wpAnyH_done (by kernel_rfl) ?_ _
 replace H:=zAA (PairIs.only H.out hHeld (by simp))
 replace HWS:=zAA (HWS.out.only hHeld (by simp))
 replace HMB:=zAA (HMB.out.only hHeld (by simp))
 replace HO:=zAA (HO.out.trans hHeld)
 have c0:=H.out.cell 0;have c1:=H.out.cell 1;have c2:=H.out.cell 2;have c3:=H.out.cell 3;have c4:=H.out.cell 4;have c5:=H.out.cell 5;have c6:=H.out.cell 6;have c7:=H.out.cell 7;simp at c0 c1 c2 c3 c4 c5 c6 c7
 have m0:=HMB.out.cell 0;have m1:=HMB.out.cell 1;have m2:=HMB.out.cell 2;have m3:=HMB.out.cell 3;have m4:=HMB.out.cell 4;have m5:=HMB.out.cell 5;have m6:=HMB.out.cell 6;have m7:=HMB.out.cell 7;have m8:=HMB.out.cell 8;have m9:=HMB.out.cell 9;have m10:=HMB.out.cell 10;have m11:=HMB.out.cell 11;have m12:=HMB.out.cell 12;simp at m0 m1 m2 m3 m4 m5 m6 m7 m8 m9 m10 m11 m12
 clear hHeld
 go_upto_region 19 with (go_at_call 75;refine(HBY.out _).mono ?_;rintro e wb ⟨bv,rfl,ho,hrd⟩;have HRD:=zAA (hrd [c] (by have:=HWS.out.lt;simp;omega));replace H:=zAA (PairIs.only H.out ho (by simp));replace HWS:=zAA (HWS.out.only ho (by simp));replace HMB:=zAA (HMB.out.only ho (by simp));replace HO:=zAA (HO.out.trans ho);clear ho hrd;(first|(clear c0 c1 c2 c3 c4 c5 c6 c7 m0 m1 m2 m3 m4 m5 m6 m7 m8 m9 m10 m11 m12)|skip);have c0:=H.out.cell 0;have c1:=H.out.cell 1;have c2:=H.out.cell 2;have c3:=H.out.cell 3;have c4:=H.out.cell 4;have c5:=H.out.cell 5;have c6:=H.out.cell 6;have c7:=H.out.cell 7;simp at c0 c1 c2 c3 c4 c5 c6 c7;have m0:=HMB.out.cell 0;have m1:=HMB.out.cell 1;have m2:=HMB.out.cell 2;have m3:=HMB.out.cell 3;have m4:=HMB.out.cell 4;have m5:=HMB.out.cell 5;have m6:=HMB.out.cell 6;have m7:=HMB.out.cell 7;have m8:=HMB.out.cell 8;have m9:=HMB.out.cell 9;have m10:=HMB.out.cell 10;have m11:=HMB.out.cell 11;have m12:=HMB.out.cell 12;simp at m0 m1 m2 m3 m4 m5 m6 m7 m8 m9 m10 m11 m12)
 clear c0 c1 c2 c3 c4 c5 c6 c7 m0 m1 m2 m3 m4 m5 m6 m7 m8 m9 m10 m11 m12
 have HWD:=zAA (show WinSet wb.drew c L from HWS.out.only ((Only.refl [] wb).drew) (by simp))
 refine wp_region_held_drew (S:=fun W=>Only [c] wb W) (by kernel_rfl) (by exact(Only.refl [c] wb).drew) (fun hHeld=>?_)
 generalize wb.drew=wd19 at *
 refine wpAnyH_take (i:=0) (v:=?_) rfl (by kernel_rfl) (by kernel_rfl) (by kernel_rfl) (fun _ _ _ h=>h) (Or.inl ⟨by rfl,?_⟩) (by assumption) ?_
 rotate_left
 ·(intro w hSw;(try dsimp only at hSw);go_simp;try with_reducible rfl)
 try simp only[List.getElem_toArray,List.getElem_cons_succ,List.getElem_cons_zero,Act.put,List.setIfInBounds_toArray,List.set_cons_zero,List.set_cons_succ]
 refine wpAnyH_take (i:=1) (v:=?_) rfl (by kernel_rfl) (by kernel_rfl) (by kernel_rfl) (fun _ _ _ h=>h) (Or.inl ⟨by rfl,?_⟩) (by assumption) ?_
 rotate_left
 ·(intro w hSw;(try dsimp only at hSw);go_simp;try with_reducible rfl)
 try simp only[List.getElem_toArray,List.getElem_cons_succ,List.getElem_cons_zero,Act.put,List.setIfInBounds_toArray,List.set_cons_zero,List.set_cons_succ]
 refine wpAnyH_take (i:=2) (v:=?_) rfl (by kernel_rfl) (by kernel_rfl) (by kernel_rfl) (fun _ _ _ h=>h) (Or.inl ⟨by rfl,?_⟩) (by assumption) ?_
 rotate_left
 ·(intro w hSw;(try dsimp only at hSw);go_simp;try with_reducible rfl)
 try simp only[List.getElem_toArray,List.getElem_cons_succ,List.getElem_cons_zero,Act.put,List.setIfInBounds_toArray,List.set_cons_zero,List.set_cons_succ]
 refine wpAnyH_take (i:=3) (v:=?_) rfl (by kernel_rfl) (by kernel_rfl) (by kernel_rfl) (fun _ _ _ h=>h) (Or.inl ⟨by rfl,?_⟩) (by assumption) ?_
 rotate_left
 ·(intro w hSw;(try dsimp only at hSw);have HPw:=PairIs.only H.out hSw (by simp;exact hgc);have c7:=Blk.cell HPw 7;simp at c7;clear HPw;go_simp;try with_reducible rfl)
 try simp only[List.getElem_toArray,List.getElem_cons_succ,List.getElem_cons_zero,Act.put,List.setIfInBounds_toArray,List.set_cons_zero,List.set_cons_succ]
 refine wpAnyH_take (i:=4) (v:=?_) rfl (by kernel_rfl) (by kernel_rfl) (by kernel_rfl) (fun _ _ _ h=>h) (Or.inl ⟨by rfl,?_⟩) (by assumption) ?_
 rotate_left
 ·(intro w hSw;(try dsimp only at hSw);go_simp;try with_reducible rfl)
 try simp only[List.getElem_toArray,List.getElem_cons_succ,List.getElem_cons_zero,Act.put,List.setIfInBounds_toArray,List.set_cons_zero,List.set_cons_succ]
 refine wpAnyH_take (i:=5) (v:=?_) rfl (by kernel_rfl) (by kernel_rfl) (by kernel_rfl) (fun _ _ _ h=>h) (Or.inl ⟨by rfl,?_⟩) (by assumption) ?_
 rotate_left
 ·(intro w hSw;(try dsimp only at hSw);have HMw:=HMB.out.only hSw (by simp;exact hmc);have m3:=HMw.cell 3;simp at m3;clear HMw;go_simp;try with_reducible rfl)
 try simp only[List.getElem_toArray,List.getElem_cons_succ,List.getElem_cons_zero,Act.put,List.setIfInBounds_toArray,List.set_cons_zero,List.set_cons_succ]
 refine wpAnyH_ready (rs:=[6]) (by kernel_rfl) (by simp) ?_
 refine(AllReadyH.cons rfl (fun K hK=>?_) AllReadyH.nil)
 go_simp
 (go_at_call 76;refine(zGn wd19 c L cc HWD.out HCC.out).mono ?_;rw[HWV.out];rintro e w6 ⟨rfl,hw2,ho⟩;have HWT:=zAA hw2;clear hw2)
 refine hK.out _ _ (by exact hHeld.trans ho) (fun hHeld=>?_)
 clear hK K ho
 try simp only[List.getElem_toArray,List.getElem_cons_succ,List.getElem_cons_zero,Act.put,List.setIfInBounds_toArray,List.set_cons_zero,List.set_cons_succ]
 refine wpAnyH_done (by kernel_rfl) ?_ _
 go_wp2_with fail
 go_ret2
 exact⟨bv,by rw[HV.out];rfl,by rw[HV.out];exact(HRD.out.only hHeld (by simp)).less (by simp),PairIs.only H.out hHeld (by simp;exact hgc),by rw[HV.out];exact HWT.out,(HO.out.mono (by simp)).trans hHeld⟩
theorem zCn(w:World)(g c:Nat)(s1 s2:ByteArray)(lo re:Nat)(beg:Bool)(made:Int)(n:Nat)(L:List Nat)(h:PairIs w g c s1 s2 lo re beg made n)(hws:WinSet w c L)(now:Int)(h1:0<=made)(h2:made<=1125899906842624)(m:Mg)(hF:m.Fine):Calls prog 31 #[.pointer (some ⟨g,0,none⟩),.int .i64 now,.agg m.cells] w (zA3 g c s1 s2 lo re beg made n (zAj lo made s2 L now m) w):=by
 obtain⟨k,s,r,cc,x4,x5,x6,x7,x8,x9,x10,x11,x12⟩:=m
 by_cases hk:k=4
 ·subst hk
  cases hr:zAG ⟨4,s,r,cc,x4,x5,x6,x7,x8,x9,x10,x11,x12⟩with
  | false=>exact zIN w g c s1 s2 lo re beg made n L h hws now h1 h2 s r cc x4 x5 x6 x7 x8 x9 x10 x11 x12 hF hr
  | true =>
   by_cases hl:r≠lo
   ·exact zIO w g c s1 s2 lo re beg made n L h hws now h1 h2 s r cc x4 x5 x6 x7 x8 x9 x10 x11 x12 hF hr hl
   ·cases ht:zAc now with
    | false=>exact zJg w g c s1 s2 lo re beg made n L h hws now h1 h2 s r cc x4 x5 x6 x7 x8 x9 x10 x11 x12 hF hr hl ht
    | true =>
     by_cases ho:180000<=zBn made now
     ·exact zKz w g c s1 s2 lo re beg made n L h hws now h1 h2 s r cc x4 x5 x6 x7 x8 x9 x10 x11 x12 hF hr hl ht ho
     ·by_cases hn:18446744073709543423<=cc
      ·exact zJh w g c s1 s2 lo re beg made n L h hws now h1 h2 s r cc x4 x5 x6 x7 x8 x9 x10 x11 x12 hF hr hl ht ho hn
      ·by_cases hw:zAu L cc=0
       ·by_cases hk:(zBD x10 s2 cc ⟨#[48]⟩).2=0
        ·cases hb:(zEx (zBD x10 s2 cc ⟨#[48]⟩).1).2 with
         | false=>exact zJ3 w g c s1 s2 lo re beg made n L h hws now h1 h2 s r cc x4 x5 x6 x7 x8 x9 x10 x11 x12 hF hr hl ht ho hn hw hk hb
         | true=>exact zJ4 w g c s1 s2 lo re beg made n L h hws now h1 h2 s r cc x4 x5 x6 x7 x8 x9 x10 x11 x12 hF hr hl ht ho hn hw hk hb
        ·exact zLH w g c s1 s2 lo re beg made n L h hws now h1 h2 s r cc x4 x5 x6 x7 x8 x9 x10 x11 x12 hF hr hl ht ho hn hw hk
       ·exact zIZ w g c s1 s2 lo re beg made n L h hws now h1 h2 s r cc x4 x5 x6 x7 x8 x9 x10 x11 x12 hF hr hl ht ho hn hw
 ·exact zJf w g c s1 s2 lo re beg made n L h hws now h1 h2 k s r cc x4 x5 x6 x7 x8 x9 x10 x11 x12 hF hk
end
end Go.Proofs.YtfipdjlalfpbnaaGreatDoor
