/-
  Walks and plain words (texts Pa3). No condition beyond those that each theorem states.
-/
import Derived.OrdersHeld
import Derived.Test.YtfipdjlalfpbnaaGreatDoorA22
namespace Go.Proofs.YtfipdjlalfpbnaaGreatDoor
section
open Go.Proofs.Tryz
set_option maxHeartbeats 12800000
set_option maxRecDepth 100000
open Go.RowKit Go.Deep

def zAj(lo:Nat)(made:Int)(s2:ByteArray)(L:List Nat)(now:Int)(m:Mg):List UInt8×Int×List Nat :=
 if ¬(m.k=4∧zAG m=true)then ([],3,L)else if m.r≠lo then ([],6,L)else if zAc now=false then ([],2,L)else if 180000<=zBn made now∨18446744073709543423<=m.c then ([],10,L)
 else if zAu L m.c≠0 then ([],9,L)else if (zBD m.x10 s2 m.c ⟨#[48]⟩).2≠0 then ([],8,L)else if (zEx (zBD m.x10 s2 m.c ⟨#[48]⟩).1).2=false then ([],3,L)else ((zEx (zBD m.x10 s2 m.c ⟨#[48]⟩).1).1,0,zDy L m.c)
def zA3(g c:Nat)(s1 s2:ByteArray)(lo re:Nat)(beg:Bool)(made:Int)(n:Nat)(r:List UInt8×Int×List Nat)(w:World)(e:Ending)(w':World):Prop :=
 ∃v,e=.returned (.tuple #[v,.int .i64 r.2.1])∧Rd w' [] v (zBR .u8 (zBo r.1))∧PairIs w' g c s1 s2 lo re beg made n∧WinSet w' c r.2.2∧Only [c] w w'
theorem zB4{g c:Nat}{s1 s2:ByteArray}{lo re n:Nat}{beg:Bool}{made k:Int}{L:List Nat}{r:List UInt8×Int×List Nat}{w w':World}(hr:r=([],k,L))(h:PairIs w' g c s1 s2 lo re beg made n)(hw:WinSet w' c L)(ho:Only [] w w') :
  zA3 g c s1 s2 lo re beg made n r w (.returned (.tuple #[.slice none 0 0,.int .i64 k])) w':=by subst hr;exact⟨_,rfl,Rd.nil _ _,h,hw,ho.mono (by simp)⟩
theorem zJf(w:World)(g c:Nat)(s1 s2:ByteArray)(lo re:Nat)(beg:Bool)(made:Int)(n:Nat)(L:List Nat)(h:PairIs w g c s1 s2 lo re beg made n)(hws:WinSet w c L)(now:Int)(h1:0<=made)(h2:made<=1125899906842624)(k:Int)(s r cc:Nat)(x4 x5 x6 x7 x8 x9 x10 x11 x12:ByteArray)(hF:(Mg.mk k s r cc x4 x5 x6 x7 x8 x9 x10 x11 x12).Fine)(hk:k≠4):Calls prog 31 #[.pointer (some ⟨g,0,none⟩),.int .i64 now,.agg #[.int .i64 k,.int .u32 (s:Nat),.int .u32 (r:Nat),.int .u64 (cc:Nat),.string x4,.string x5,.string x6,.string x7,.string x8,.string x9,.string x10,.string x11,.string x12]] w (zA3 g c s1 s2 lo re beg made n (zAj lo made s2 L now ⟨k,s,r,cc,x4,x5,x6,x7,x8,x9,x10,x11,x12⟩) w):=by
 have HV:=zAA (show zAj lo made s2 L now ⟨k,s,r,cc,x4,x5,x6,x7,x8,x9,x10,x11,x12⟩=([],3,L)by unfold zAj;rw[if_pos (fun h=>hk h.1)])
 have hgc:g≠c:=by obtain⟨cs,hb⟩:=hws.blk;exact Blk.ne_ h hb (by decide)
 have hmc:w.heap.size≠c:=by have:=hws.lt;omega
 have HT:=zAA (fun W=>zAx now W)
 have HOL:=zAA (fun(ht:zAc now=true) W (hw:PairIs W g c s1 s2 lo re beg made n)=>zBT W g c s1 s2 lo re beg made n hw now h1 h2 ((zAT now).1 ht).1 ((zAT now).1 ht).2)
 have HTM:=zAA (fun W=>zBQ W ⟨k,s,r,cc,x4,x5,x6,x7,x8,x9,x10,x11,x12⟩ hF)
 unfold zAp at HTM
 have HMB:=zAA (Blk.new w 25 #[.int .i64 k,.int .u32 (s:Nat),.int .u32 (r:Nat),.int .u64 (cc:Nat),.string x4,.string x5,.string x6,.string x7,.string x8,.string x9,.string x10,.string x11,.string x12])
 have HO:=zAA ((Only.refl [] w).alloc (.cells #[.int .i64 k,.int .u32 (s:Nat),.int .u32 (r:Nat),.int .u64 (cc:Nat),.string x4,.string x5,.string x6,.string x7,.string x8,.string x9,.string x10,.string x11,.string x12] 25))
 have H:=zAA (PairIs.only h HO.out (by simp))
 have HWS:=zAA (hws.only HO.out (by simp))
 have hkb:(k != 4)=true:=by rw[bne_iff_ne];exact hk
 clear hk
 clear h hws h1 h2
 go_enter func31,ntmps31
 go_upto_region 1 with fail
 generalize (w.alloc (.cells #[.int .i64 k,.int .u32 (s:Nat),.int .u32 (r:Nat),.int .u64 (cc:Nat),.string x4,.string x5,.string x6,.string x7,.string x8,.string x9,.string x10,.string x11,.string x12] 25))=v0 at *
 have c0:=H.out.cell 0;have c1:=H.out.cell 1;have c2:=H.out.cell 2;have c3:=H.out.cell 3;have c4:=H.out.cell 4;have c5:=H.out.cell 5;have c6:=H.out.cell 6;have c7:=H.out.cell 7;simp at c0 c1 c2 c3 c4 c5 c6 c7
 have m0:=HMB.out.cell 0;have m1:=HMB.out.cell 1;have m2:=HMB.out.cell 2;have m3:=HMB.out.cell 3;have m4:=HMB.out.cell 4;have m5:=HMB.out.cell 5;have m6:=HMB.out.cell 6;have m7:=HMB.out.cell 7;have m8:=HMB.out.cell 8;have m9:=HMB.out.cell 9;have m10:=HMB.out.cell 10;have m11:=HMB.out.cell 11;have m12:=HMB.out.cell 12;simp at m0 m1 m2 m3 m4 m5 m6 m7 m8 m9 m10 m11 m12
 go_wp2_with fail
 go_ret2
 exact zB4 HV.out H.out HWS.out HO.out
theorem zIN(w:World)(g c:Nat)(s1 s2:ByteArray)(lo re:Nat)(beg:Bool)(made:Int)(n:Nat)(L:List Nat)(h:PairIs w g c s1 s2 lo re beg made n)(hws:WinSet w c L)(now:Int)(h1:0<=made)(h2:made<=1125899906842624)(s r cc:Nat)(x4 x5 x6 x7 x8 x9 x10 x11 x12:ByteArray)(hF:(Mg.mk 4 s r cc x4 x5 x6 x7 x8 x9 x10 x11 x12).Fine)(hr:zAG (Mg.mk 4 s r cc x4 x5 x6 x7 x8 x9 x10 x11 x12)=false):Calls prog 31 #[.pointer (some ⟨g,0,none⟩),.int .i64 now,.agg #[.int .i64 4,.int .u32 (s:Nat),.int .u32 (r:Nat),.int .u64 (cc:Nat),.string x4,.string x5,.string x6,.string x7,.string x8,.string x9,.string x10,.string x11,.string x12]] w (zA3 g c s1 s2 lo re beg made n (zAj lo made s2 L now ⟨4,s,r,cc,x4,x5,x6,x7,x8,x9,x10,x11,x12⟩) w):=by
 have HV:=zAA (show zAj lo made s2 L now ⟨4,s,r,cc,x4,x5,x6,x7,x8,x9,x10,x11,x12⟩=([],3,L)by unfold zAj;rw[if_pos (fun h=>by rw[hr]at h;cases h.2)])
 have hgc:g≠c:=by obtain⟨cs,hb⟩:=hws.blk;exact Blk.ne_ h hb (by decide)
 have hmc:w.heap.size≠c:=by have:=hws.lt;omega
 have HT:=zAA (fun W=>zAx now W)
 have HOL:=zAA (fun(ht:zAc now=true) W (hw:PairIs W g c s1 s2 lo re beg made n)=>zBT W g c s1 s2 lo re beg made n hw now h1 h2 ((zAT now).1 ht).1 ((zAT now).1 ht).2)
 have HTM:=zAA (fun W=>zBQ W ⟨4,s,r,cc,x4,x5,x6,x7,x8,x9,x10,x11,x12⟩ hF)
 unfold zAp at HTM
 have HMB:=zAA (Blk.new w 25 #[.int .i64 4,.int .u32 (s:Nat),.int .u32 (r:Nat),.int .u64 (cc:Nat),.string x4,.string x5,.string x6,.string x7,.string x8,.string x9,.string x10,.string x11,.string x12])
 have HO:=zAA ((Only.refl [] w).alloc (.cells #[.int .i64 4,.int .u32 (s:Nat),.int .u32 (r:Nat),.int .u64 (cc:Nat),.string x4,.string x5,.string x6,.string x7,.string x8,.string x9,.string x10,.string x11,.string x12] 25))
 have H:=zAA (PairIs.only h HO.out (by simp))
 have HWS:=zAA (hws.only HO.out (by simp))
 rw[hr]at HTM
 simp only[Bool.false_eq_true,if_false]at HTM
 clear hr
 clear h hws h1 h2
 go_enter func31,ntmps31
 go_upto_region 1 with fail
 generalize (w.alloc (.cells #[.int .i64 4,.int .u32 (s:Nat),.int .u32 (r:Nat),.int .u64 (cc:Nat),.string x4,.string x5,.string x6,.string x7,.string x8,.string x9,.string x10,.string x11,.string x12] 25))=v0 at *
 have c0:=H.out.cell 0;have c1:=H.out.cell 1;have c2:=H.out.cell 2;have c3:=H.out.cell 3;have c4:=H.out.cell 4;have c5:=H.out.cell 5;have c6:=H.out.cell 6;have c7:=H.out.cell 7;simp at c0 c1 c2 c3 c4 c5 c6 c7
 have m0:=HMB.out.cell 0;have m1:=HMB.out.cell 1;have m2:=HMB.out.cell 2;have m3:=HMB.out.cell 3;have m4:=HMB.out.cell 4;have m5:=HMB.out.cell 5;have m6:=HMB.out.cell 6;have m7:=HMB.out.cell 7;have m8:=HMB.out.cell 8;have m9:=HMB.out.cell 9;have m10:=HMB.out.cell 10;have m11:=HMB.out.cell 11;have m12:=HMB.out.cell 12;simp at m0 m1 m2 m3 m4 m5 m6 m7 m8 m9 m10 m11 m12
 go_wp2_with (go_at_call 56;refine(HTM.out _).mono ?_;rintro e v1 ⟨ho,rfl⟩;replace H:=zAA (PairIs.only H.out ho (by simp));replace HWS:=zAA (HWS.out.only ho (by simp));replace HMB:=zAA (HMB.out.only ho (by simp));replace HO:=zAA (HO.out.trans ho);clear ho;(first|(clear c0 c1 c2 c3 c4 c5 c6 c7 m0 m1 m2 m3 m4 m5 m6 m7 m8 m9 m10 m11 m12)|skip);have c0:=H.out.cell 0;have c1:=H.out.cell 1;have c2:=H.out.cell 2;have c3:=H.out.cell 3;have c4:=H.out.cell 4;have c5:=H.out.cell 5;have c6:=H.out.cell 6;have c7:=H.out.cell 7;simp at c0 c1 c2 c3 c4 c5 c6 c7;have m0:=HMB.out.cell 0;have m1:=HMB.out.cell 1;have m2:=HMB.out.cell 2;have m3:=HMB.out.cell 3;have m4:=HMB.out.cell 4;have m5:=HMB.out.cell 5;have m6:=HMB.out.cell 6;have m7:=HMB.out.cell 7;have m8:=HMB.out.cell 8;have m9:=HMB.out.cell 9;have m10:=HMB.out.cell 10;have m11:=HMB.out.cell 11;have m12:=HMB.out.cell 12;simp at m0 m1 m2 m3 m4 m5 m6 m7 m8 m9 m10 m11 m12)
 go_ret2
 exact zB4 HV.out H.out HWS.out HO.out
theorem zIO(w:World)(g c:Nat)(s1 s2:ByteArray)(lo re:Nat)(beg:Bool)(made:Int)(n:Nat)(L:List Nat)(h:PairIs w g c s1 s2 lo re beg made n)(hws:WinSet w c L)(now:Int)(h1:0<=made)(h2:made<=1125899906842624)(s r cc:Nat)(x4 x5 x6 x7 x8 x9 x10 x11 x12:ByteArray)(hF:(Mg.mk 4 s r cc x4 x5 x6 x7 x8 x9 x10 x11 x12).Fine)(hr:zAG (Mg.mk 4 s r cc x4 x5 x6 x7 x8 x9 x10 x11 x12)=true)(hl:r≠lo):Calls prog 31 #[.pointer (some ⟨g,0,none⟩),.int .i64 now,.agg #[.int .i64 4,.int .u32 (s:Nat),.int .u32 (r:Nat),.int .u64 (cc:Nat),.string x4,.string x5,.string x6,.string x7,.string x8,.string x9,.string x10,.string x11,.string x12]] w (zA3 g c s1 s2 lo re beg made n (zAj lo made s2 L now ⟨4,s,r,cc,x4,x5,x6,x7,x8,x9,x10,x11,x12⟩) w):=by
 have HV:=zAA (show zAj lo made s2 L now ⟨4,s,r,cc,x4,x5,x6,x7,x8,x9,x10,x11,x12⟩=([],6,L)by unfold zAj;rw[if_neg (fun h=>h ⟨rfl,hr⟩),if_pos hl])
 have hgc:g≠c:=by obtain⟨cs,hb⟩:=hws.blk;exact Blk.ne_ h hb (by decide)
 have hmc:w.heap.size≠c:=by have:=hws.lt;omega
 have HT:=zAA (fun W=>zAx now W)
 have HOL:=zAA (fun(ht:zAc now=true) W (hw:PairIs W g c s1 s2 lo re beg made n)=>zBT W g c s1 s2 lo re beg made n hw now h1 h2 ((zAT now).1 ht).1 ((zAT now).1 ht).2)
 have HTM:=zAA (fun W=>zBQ W ⟨4,s,r,cc,x4,x5,x6,x7,x8,x9,x10,x11,x12⟩ hF)
 unfold zAp at HTM
 have HMB:=zAA (Blk.new w 25 #[.int .i64 4,.int .u32 (s:Nat),.int .u32 (r:Nat),.int .u64 (cc:Nat),.string x4,.string x5,.string x6,.string x7,.string x8,.string x9,.string x10,.string x11,.string x12])
 have HO:=zAA ((Only.refl [] w).alloc (.cells #[.int .i64 4,.int .u32 (s:Nat),.int .u32 (r:Nat),.int .u64 (cc:Nat),.string x4,.string x5,.string x6,.string x7,.string x8,.string x9,.string x10,.string x11,.string x12] 25))
 have H:=zAA (PairIs.only h HO.out (by simp))
 have HWS:=zAA (hws.only HO.out (by simp))
 rw[hr]at HTM
 simp only[if_true]at HTM
 have hl1:(zAU (Mg.mk 4 s r cc x4 x5 x6 x7 x8 x9 x10 x11 x12)).length=1:=rfl
 have hlb:((r:Int) != (lo:Int))=true:=by rw[bne_iff_ne];omega
 clear hr hl
 clear h hws h1 h2
 go_enter func31,ntmps31
 go_upto_region 1 with fail
 generalize (w.alloc (.cells #[.int .i64 4,.int .u32 (s:Nat),.int .u32 (r:Nat),.int .u64 (cc:Nat),.string x4,.string x5,.string x6,.string x7,.string x8,.string x9,.string x10,.string x11,.string x12] 25))=v0 at *
 have c0:=H.out.cell 0;have c1:=H.out.cell 1;have c2:=H.out.cell 2;have c3:=H.out.cell 3;have c4:=H.out.cell 4;have c5:=H.out.cell 5;have c6:=H.out.cell 6;have c7:=H.out.cell 7;simp at c0 c1 c2 c3 c4 c5 c6 c7
 have m0:=HMB.out.cell 0;have m1:=HMB.out.cell 1;have m2:=HMB.out.cell 2;have m3:=HMB.out.cell 3;have m4:=HMB.out.cell 4;have m5:=HMB.out.cell 5;have m6:=HMB.out.cell 6;have m7:=HMB.out.cell 7;have m8:=HMB.out.cell 8;have m9:=HMB.out.cell 9;have m10:=HMB.out.cell 10;have m11:=HMB.out.cell 11;have m12:=HMB.out.cell 12;simp at m0 m1 m2 m3 m4 m5 m6 m7 m8 m9 m10 m11 m12
 go_upto_region 5 with (go_at_call 56;refine(HTM.out _).mono ?_;rintro e v1 ⟨ho,v,rfl,hrd⟩;obtain⟨A2,cp,hv,hcc,hmm⟩:=hrd.form;replace hv:v=.slice A2 1 cp:=hv;subst hv;replace H:=zAA (PairIs.only H.out ho (by simp));replace HWS:=zAA (HWS.out.only ho (by simp));replace HMB:=zAA (HMB.out.only ho (by simp));replace HO:=zAA (HO.out.trans ho);clear ho hrd hcc hmm;(first|(clear c0 c1 c2 c3 c4 c5 c6 c7 m0 m1 m2 m3 m4 m5 m6 m7 m8 m9 m10 m11 m12)|skip);have c0:=H.out.cell 0;have c1:=H.out.cell 1;have c2:=H.out.cell 2;have c3:=H.out.cell 3;have c4:=H.out.cell 4;have c5:=H.out.cell 5;have c6:=H.out.cell 6;have c7:=H.out.cell 7;simp at c0 c1 c2 c3 c4 c5 c6 c7;have m0:=HMB.out.cell 0;have m1:=HMB.out.cell 1;have m2:=HMB.out.cell 2;have m3:=HMB.out.cell 3;have m4:=HMB.out.cell 4;have m5:=HMB.out.cell 5;have m6:=HMB.out.cell 6;have m7:=HMB.out.cell 7;have m8:=HMB.out.cell 8;have m9:=HMB.out.cell 9;have m10:=HMB.out.cell 10;have m11:=HMB.out.cell 11;have m12:=HMB.out.cell 12;simp at m0 m1 m2 m3 m4 m5 m6 m7 m8 m9 m10 m11 m12)
 clear c0 c1 c2 c3 c4 c5 c6 c7 m0 m1 m2 m3 m4 m5 m6 m7 m8 m9 m10 m11 m12
 refine wp_region_held_drew (S:=fun W=>Only [] v1 W) (by kernel_rfl) (by exact(Only.refl [] v1).drew) (fun hHeld=>?_)
 generalize v1.drew=wd5 at *
 refine wpAnyH_take (i:=0) (v:=?_) rfl (by kernel_rfl) (by kernel_rfl) (by kernel_rfl) (fun _ _ _ h=>h) (Or.inl ⟨by rfl,?_⟩) (by assumption) ?_
 rotate_left
 ·(intro w hSw;(try dsimp only at hSw);go_simp;try with_reducible rfl)
 try simp only[List.getElem_toArray,List.getElem_cons_succ,List.getElem_cons_zero,Act.put,List.setIfInBounds_toArray,List.set_cons_zero,List.set_cons_succ]
 refine wpAnyH_take (i:=1) (v:=?_) rfl (by kernel_rfl) (by kernel_rfl) (by kernel_rfl) (fun _ _ _ h=>h) (Or.inl ⟨by rfl,?_⟩) (by assumption) ?_
 rotate_left
 ·(intro w hSw;(try dsimp only at hSw);have HMw:=HMB.out.only hSw (by simp);have m2:=HMw.cell 2;simp at m2;clear HMw;go_simp;try with_reducible rfl)
 try simp only[List.getElem_toArray,List.getElem_cons_succ,List.getElem_cons_zero,Act.put,List.setIfInBounds_toArray,List.set_cons_zero,List.set_cons_succ]
 refine wpAnyH_take (i:=2) (v:=?_) rfl (by kernel_rfl) (by kernel_rfl) (by kernel_rfl) (fun _ _ _ h=>h) (Or.inl ⟨by rfl,?_⟩) (by assumption) ?_
 rotate_left
 ·(intro w hSw;(try dsimp only at hSw);go_simp;try with_reducible rfl)
 try simp only[List.getElem_toArray,List.getElem_cons_succ,List.getElem_cons_zero,Act.put,List.setIfInBounds_toArray,List.set_cons_zero,List.set_cons_succ]
 refine wpAnyH_take (i:=3) (v:=?_) rfl (by kernel_rfl) (by kernel_rfl) (by kernel_rfl) (fun _ _ _ h=>h) (Or.inl ⟨by rfl,?_⟩) (by assumption) ?_
 rotate_left
 ·(intro w hSw;(try dsimp only at hSw);go_simp;try with_reducible rfl)
 try simp only[List.getElem_toArray,List.getElem_cons_succ,List.getElem_cons_zero,Act.put,List.setIfInBounds_toArray,List.set_cons_zero,List.set_cons_succ]
 refine wpAnyH_take (i:=4) (v:=?_) rfl (by kernel_rfl) (by kernel_rfl) (by kernel_rfl) (fun _ _ _ h=>h) (Or.inl ⟨by rfl,?_⟩) (by assumption) ?_
 rotate_left
 ·(intro w hSw;(try dsimp only at hSw);go_simp;try with_reducible rfl)
 try simp only[List.getElem_toArray,List.getElem_cons_succ,List.getElem_cons_zero,Act.put,List.setIfInBounds_toArray,List.set_cons_zero,List.set_cons_succ]
 refine wpAnyH_take (i:=5) (v:=?_) rfl (by kernel_rfl) (by kernel_rfl) (by kernel_rfl) (fun _ _ _ h=>h) (Or.inl ⟨by rfl,?_⟩) (by assumption) ?_
 rotate_left
 ·(intro w hSw;(try dsimp only at hSw);have HPw:=PairIs.only H.out hSw (by simp);have c2:=Blk.cell HPw 2;simp at c2;clear HPw;go_simp;try with_reducible rfl)
 try simp only[List.getElem_toArray,List.getElem_cons_succ,List.getElem_cons_zero,Act.put,List.setIfInBounds_toArray,List.set_cons_zero,List.set_cons_succ]
 refine wpAnyH_take (i:=6) (v:=?_) rfl (by kernel_rfl) (by kernel_rfl) (by kernel_rfl) (fun _ _ _ h=>h) (Or.inl ⟨by rfl,?_⟩) (by assumption) ?_
 rotate_left
 ·(intro w hSw;(try dsimp only at hSw);go_simp;try with_reducible rfl)
 try simp only[List.getElem_toArray,List.getElem_cons_succ,List.getElem_cons_zero,Act.put,List.setIfInBounds_toArray,List.set_cons_zero,List.set_cons_succ]
 refine wpAnyH_take (i:=7) (v:=?_) rfl (by kernel_rfl) (by kernel_rfl) (by kernel_rfl) (fun _ _ _ h=>h) (Or.inl ⟨by rfl,?_⟩) (by assumption) ?_
 rotate_left
 ·(intro w hSw;(try dsimp only at hSw);go_simp;try with_reducible rfl)
 try simp only[List.getElem_toArray,List.getElem_cons_succ,List.getElem_cons_zero,Act.put,List.setIfInBounds_toArray,List.set_cons_zero,List.set_cons_succ]
 refine wpAnyH_done (by kernel_rfl) ?_ _
 replace H:=zAA (PairIs.only H.out hHeld (by simp))
 replace HWS:=zAA (HWS.out.only hHeld (by simp))
 replace HMB:=zAA (HMB.out.only hHeld (by simp))
 replace HO:=zAA (HO.out.trans hHeld)
 have c0:=H.out.cell 0;have c1:=H.out.cell 1;have c2:=H.out.cell 2;have c3:=H.out.cell 3;have c4:=H.out.cell 4;have c5:=H.out.cell 5;have c6:=H.out.cell 6;have c7:=H.out.cell 7;simp at c0 c1 c2 c3 c4 c5 c6 c7
 have m0:=HMB.out.cell 0;have m1:=HMB.out.cell 1;have m2:=HMB.out.cell 2;have m3:=HMB.out.cell 3;have m4:=HMB.out.cell 4;have m5:=HMB.out.cell 5;have m6:=HMB.out.cell 6;have m7:=HMB.out.cell 7;have m8:=HMB.out.cell 8;have m9:=HMB.out.cell 9;have m10:=HMB.out.cell 10;have m11:=HMB.out.cell 11;have m12:=HMB.out.cell 12;simp at m0 m1 m2 m3 m4 m5 m6 m7 m8 m9 m10 m11 m12
 clear hHeld
 go_wp2_with fail
 go_ret2
 exact zB4 HV.out H.out HWS.out HO.out
theorem zJg(w:World)(g c:Nat)(s1 s2:ByteArray)(lo re:Nat)(beg:Bool)(made:Int)(n:Nat)(L:List Nat)(h:PairIs w g c s1 s2 lo re beg made n)(hws:WinSet w c L)(now:Int)(h1:0<=made)(h2:made<=1125899906842624)(s r cc:Nat)(x4 x5 x6 x7 x8 x9 x10 x11 x12:ByteArray)(hF:(Mg.mk 4 s r cc x4 x5 x6 x7 x8 x9 x10 x11 x12).Fine)(hr:zAG (Mg.mk 4 s r cc x4 x5 x6 x7 x8 x9 x10 x11 x12)=true)(hl:¬r≠lo)(ht:zAc now=false):Calls prog 31 #[.pointer (some ⟨g,0,none⟩),.int .i64 now,.agg #[.int .i64 4,.int .u32 (s:Nat),.int .u32 (r:Nat),.int .u64 (cc:Nat),.string x4,.string x5,.string x6,.string x7,.string x8,.string x9,.string x10,.string x11,.string x12]] w (zA3 g c s1 s2 lo re beg made n (zAj lo made s2 L now ⟨4,s,r,cc,x4,x5,x6,x7,x8,x9,x10,x11,x12⟩) w):=by
 have HV:=zAA (show zAj lo made s2 L now ⟨4,s,r,cc,x4,x5,x6,x7,x8,x9,x10,x11,x12⟩=([],2,L)by unfold zAj;rw[if_neg (fun h=>h ⟨rfl,hr⟩),if_neg hl,if_pos ht])
 have hgc:g≠c:=by obtain⟨cs,hb⟩:=hws.blk;exact Blk.ne_ h hb (by decide)
 have hmc:w.heap.size≠c:=by have:=hws.lt;omega
 have HT:=zAA (fun W=>zAx now W)
 have HOL:=zAA (fun(ht:zAc now=true) W (hw:PairIs W g c s1 s2 lo re beg made n)=>zBT W g c s1 s2 lo re beg made n hw now h1 h2 ((zAT now).1 ht).1 ((zAT now).1 ht).2)
 have HTM:=zAA (fun W=>zBQ W ⟨4,s,r,cc,x4,x5,x6,x7,x8,x9,x10,x11,x12⟩ hF)
 unfold zAp at HTM
 have HMB:=zAA (Blk.new w 25 #[.int .i64 4,.int .u32 (s:Nat),.int .u32 (r:Nat),.int .u64 (cc:Nat),.string x4,.string x5,.string x6,.string x7,.string x8,.string x9,.string x10,.string x11,.string x12])
 have HO:=zAA ((Only.refl [] w).alloc (.cells #[.int .i64 4,.int .u32 (s:Nat),.int .u32 (r:Nat),.int .u64 (cc:Nat),.string x4,.string x5,.string x6,.string x7,.string x8,.string x9,.string x10,.string x11,.string x12] 25))
 have H:=zAA (PairIs.only h HO.out (by simp))
 have HWS:=zAA (hws.only HO.out (by simp))
 rw[hr]at HTM
 simp only[if_true]at HTM
 have hl1:(zAU (Mg.mk 4 s r cc x4 x5 x6 x7 x8 x9 x10 x11 x12)).length=1:=rfl
 have hlb:((r:Int) != (lo:Int))=false:=by rw[bne_eq_false_iff_eq];omega
 clear hr hl
 rw[ht]at HT
 clear ht
 clear h hws h1 h2
 go_enter func31,ntmps31
 go_upto_region 1 with fail
 generalize (w.alloc (.cells #[.int .i64 4,.int .u32 (s:Nat),.int .u32 (r:Nat),.int .u64 (cc:Nat),.string x4,.string x5,.string x6,.string x7,.string x8,.string x9,.string x10,.string x11,.string x12] 25))=v0 at *
 have c0:=H.out.cell 0;have c1:=H.out.cell 1;have c2:=H.out.cell 2;have c3:=H.out.cell 3;have c4:=H.out.cell 4;have c5:=H.out.cell 5;have c6:=H.out.cell 6;have c7:=H.out.cell 7;simp at c0 c1 c2 c3 c4 c5 c6 c7
 have m0:=HMB.out.cell 0;have m1:=HMB.out.cell 1;have m2:=HMB.out.cell 2;have m3:=HMB.out.cell 3;have m4:=HMB.out.cell 4;have m5:=HMB.out.cell 5;have m6:=HMB.out.cell 6;have m7:=HMB.out.cell 7;have m8:=HMB.out.cell 8;have m9:=HMB.out.cell 9;have m10:=HMB.out.cell 10;have m11:=HMB.out.cell 11;have m12:=HMB.out.cell 12;simp at m0 m1 m2 m3 m4 m5 m6 m7 m8 m9 m10 m11 m12
 go_upto_region 5 with (go_at_call 56;refine(HTM.out _).mono ?_;rintro e v1 ⟨ho,v,rfl,hrd⟩;obtain⟨A2,cp,hv,hcc,hmm⟩:=hrd.form;replace hv:v=.slice A2 1 cp:=hv;subst hv;replace H:=zAA (PairIs.only H.out ho (by simp));replace HWS:=zAA (HWS.out.only ho (by simp));replace HMB:=zAA (HMB.out.only ho (by simp));replace HO:=zAA (HO.out.trans ho);clear ho hrd hcc hmm;(first|(clear c0 c1 c2 c3 c4 c5 c6 c7 m0 m1 m2 m3 m4 m5 m6 m7 m8 m9 m10 m11 m12)|skip);have c0:=H.out.cell 0;have c1:=H.out.cell 1;have c2:=H.out.cell 2;have c3:=H.out.cell 3;have c4:=H.out.cell 4;have c5:=H.out.cell 5;have c6:=H.out.cell 6;have c7:=H.out.cell 7;simp at c0 c1 c2 c3 c4 c5 c6 c7;have m0:=HMB.out.cell 0;have m1:=HMB.out.cell 1;have m2:=HMB.out.cell 2;have m3:=HMB.out.cell 3;have m4:=HMB.out.cell 4;have m5:=HMB.out.cell 5;have m6:=HMB.out.cell 6;have m7:=HMB.out.cell 7;have m8:=HMB.out.cell 8;have m9:=HMB.out.cell 9;have m10:=HMB.out.cell 10;have m11:=HMB.out.cell 11;have m12:=HMB.out.cell 12;simp at m0 m1 m2 m3 m4 m5 m6 m7 m8 m9 m10 m11 m12)
 clear c0 c1 c2 c3 c4 c5 c6 c7 m0 m1 m2 m3 m4 m5 m6 m7 m8 m9 m10 m11 m12
 refine wp_region_held_drew (S:=fun W=>Only [] v1 W) (by kernel_rfl) (by exact(Only.refl [] v1).drew) (fun hHeld=>?_)
 generalize v1.drew=wd5 at *
 refine wpAnyH_take (i:=0) (v:=?_) rfl (by kernel_rfl) (by kernel_rfl) (by kernel_rfl) (fun _ _ _ h=>h) (Or.inl ⟨by rfl,?_⟩) (by assumption) ?_
 rotate_left
 ·(intro w hSw;(try dsimp only at hSw);go_simp;try with_reducible rfl)
 try simp only[List.getElem_toArray,List.getElem_cons_succ,List.getElem_cons_zero,Act.put,List.setIfInBounds_toArray,List.set_cons_zero,List.set_cons_succ]
 refine wpAnyH_take (i:=1) (v:=?_) rfl (by kernel_rfl) (by kernel_rfl) (by kernel_rfl) (fun _ _ _ h=>h) (Or.inl ⟨by rfl,?_⟩) (by assumption) ?_
 rotate_left
 ·(intro w hSw;(try dsimp only at hSw);have HMw:=HMB.out.only hSw (by simp);have m2:=HMw.cell 2;simp at m2;clear HMw;go_simp;try with_reducible rfl)
 try simp only[List.getElem_toArray,List.getElem_cons_succ,List.getElem_cons_zero,Act.put,List.setIfInBounds_toArray,List.set_cons_zero,List.set_cons_succ]
 refine wpAnyH_take (i:=2) (v:=?_) rfl (by kernel_rfl) (by kernel_rfl) (by kernel_rfl) (fun _ _ _ h=>h) (Or.inl ⟨by rfl,?_⟩) (by assumption) ?_
 rotate_left
 ·(intro w hSw;(try dsimp only at hSw);go_simp;try with_reducible rfl)
 try simp only[List.getElem_toArray,List.getElem_cons_succ,List.getElem_cons_zero,Act.put,List.setIfInBounds_toArray,List.set_cons_zero,List.set_cons_succ]
 refine wpAnyH_take (i:=3) (v:=?_) rfl (by kernel_rfl) (by kernel_rfl) (by kernel_rfl) (fun _ _ _ h=>h) (Or.inl ⟨by rfl,?_⟩) (by assumption) ?_
 rotate_left
 ·(intro w hSw;(try dsimp only at hSw);go_simp;try with_reducible rfl)
 try simp only[List.getElem_toArray,List.getElem_cons_succ,List.getElem_cons_zero,Act.put,List.setIfInBounds_toArray,List.set_cons_zero,List.set_cons_succ]
 refine wpAnyH_take (i:=4) (v:=?_) rfl (by kernel_rfl) (by kernel_rfl) (by kernel_rfl) (fun _ _ _ h=>h) (Or.inl ⟨by rfl,?_⟩) (by assumption) ?_
 rotate_left
 ·(intro w hSw;(try dsimp only at hSw);go_simp;try with_reducible rfl)
 try simp only[List.getElem_toArray,List.getElem_cons_succ,List.getElem_cons_zero,Act.put,List.setIfInBounds_toArray,List.set_cons_zero,List.set_cons_succ]
 refine wpAnyH_take (i:=5) (v:=?_) rfl (by kernel_rfl) (by kernel_rfl) (by kernel_rfl) (fun _ _ _ h=>h) (Or.inl ⟨by rfl,?_⟩) (by assumption) ?_
 rotate_left
 ·(intro w hSw;(try dsimp only at hSw);have HPw:=PairIs.only H.out hSw (by simp);have c2:=Blk.cell HPw 2;simp at c2;clear HPw;go_simp;try with_reducible rfl)
 try simp only[List.getElem_toArray,List.getElem_cons_succ,List.getElem_cons_zero,Act.put,List.setIfInBounds_toArray,List.set_cons_zero,List.set_cons_succ]
 refine wpAnyH_take (i:=6) (v:=?_) rfl (by kernel_rfl) (by kernel_rfl) (by kernel_rfl) (fun _ _ _ h=>h) (Or.inl ⟨by rfl,?_⟩) (by assumption) ?_
 rotate_left
 ·(intro w hSw;(try dsimp only at hSw);go_simp;try with_reducible rfl)
 try simp only[List.getElem_toArray,List.getElem_cons_succ,List.getElem_cons_zero,Act.put,List.setIfInBounds_toArray,List.set_cons_zero,List.set_cons_succ]
 refine wpAnyH_take (i:=7) (v:=?_) rfl (by kernel_rfl) (by kernel_rfl) (by kernel_rfl) (fun _ _ _ h=>h) (Or.inl ⟨by rfl,?_⟩) (by assumption) ?_
 rotate_left
 ·(intro w hSw;(try dsimp only at hSw);go_simp;try with_reducible rfl)
 try simp only[List.getElem_toArray,List.getElem_cons_succ,List.getElem_cons_zero,Act.put,List.setIfInBounds_toArray,List.set_cons_zero,List.set_cons_succ]
 refine wpAnyH_done (by kernel_rfl) ?_ _
 replace H:=zAA (PairIs.only H.out hHeld (by simp))
 replace HWS:=zAA (HWS.out.only hHeld (by simp))
 replace HMB:=zAA (HMB.out.only hHeld (by simp))
 replace HO:=zAA (HO.out.trans hHeld)
 have c0:=H.out.cell 0;have c1:=H.out.cell 1;have c2:=H.out.cell 2;have c3:=H.out.cell 3;have c4:=H.out.cell 4;have c5:=H.out.cell 5;have c6:=H.out.cell 6;have c7:=H.out.cell 7;simp at c0 c1 c2 c3 c4 c5 c6 c7
 have m0:=HMB.out.cell 0;have m1:=HMB.out.cell 1;have m2:=HMB.out.cell 2;have m3:=HMB.out.cell 3;have m4:=HMB.out.cell 4;have m5:=HMB.out.cell 5;have m6:=HMB.out.cell 6;have m7:=HMB.out.cell 7;have m8:=HMB.out.cell 8;have m9:=HMB.out.cell 9;have m10:=HMB.out.cell 10;have m11:=HMB.out.cell 11;have m12:=HMB.out.cell 12;simp at m0 m1 m2 m3 m4 m5 m6 m7 m8 m9 m10 m11 m12
 clear hHeld
 go_wp2_with (go_at_call 69;refine(HT.out _).mono ?_;rintro e wz ⟨rfl,rfl⟩)
 go_ret2
 exact zB4 HV.out H.out HWS.out HO.out
theorem zKz(w:World)(g c:Nat)(s1 s2:ByteArray)(lo re:Nat)(beg:Bool)(made:Int)(n:Nat)(L:List Nat)(h:PairIs w g c s1 s2 lo re beg made n)(hws:WinSet w c L)(now:Int)(h1:0<=made)(h2:made<=1125899906842624)(s r cc:Nat)(x4 x5 x6 x7 x8 x9 x10 x11 x12:ByteArray)(hF:(Mg.mk 4 s r cc x4 x5 x6 x7 x8 x9 x10 x11 x12).Fine)(hr:zAG (Mg.mk 4 s r cc x4 x5 x6 x7 x8 x9 x10 x11 x12)=true)(hl:¬r≠lo)(ht:zAc now=true)(ho:180000<=zBn made now):Calls prog 31 #[.pointer (some ⟨g,0,none⟩),.int .i64 now,.agg #[.int .i64 4,.int .u32 (s:Nat),.int .u32 (r:Nat),.int .u64 (cc:Nat),.string x4,.string x5,.string x6,.string x7,.string x8,.string x9,.string x10,.string x11,.string x12]] w (zA3 g c s1 s2 lo re beg made n (zAj lo made s2 L now ⟨4,s,r,cc,x4,x5,x6,x7,x8,x9,x10,x11,x12⟩) w):=by
 have HV:=zAA (show zAj lo made s2 L now ⟨4,s,r,cc,x4,x5,x6,x7,x8,x9,x10,x11,x12⟩=([],10,L)by unfold zAj;rw[if_neg (fun h=>h ⟨rfl,hr⟩),if_neg hl,if_neg (by rw[ht];decide),if_pos (.inl ho)])
 have hgc:g≠c:=by obtain⟨cs,hb⟩:=hws.blk;exact Blk.ne_ h hb (by decide)
 have hmc:w.heap.size≠c:=by have:=hws.lt;omega
 have HT:=zAA (fun W=>zAx now W)
 have HOL:=zAA (fun(ht:zAc now=true) W (hw:PairIs W g c s1 s2 lo re beg made n)=>zBT W g c s1 s2 lo re beg made n hw now h1 h2 ((zAT now).1 ht).1 ((zAT now).1 ht).2)
 have HTM:=zAA (fun W=>zBQ W ⟨4,s,r,cc,x4,x5,x6,x7,x8,x9,x10,x11,x12⟩ hF)
 unfold zAp at HTM
 have HMB:=zAA (Blk.new w 25 #[.int .i64 4,.int .u32 (s:Nat),.int .u32 (r:Nat),.int .u64 (cc:Nat),.string x4,.string x5,.string x6,.string x7,.string x8,.string x9,.string x10,.string x11,.string x12])
 have HO:=zAA ((Only.refl [] w).alloc (.cells #[.int .i64 4,.int .u32 (s:Nat),.int .u32 (r:Nat),.int .u64 (cc:Nat),.string x4,.string x5,.string x6,.string x7,.string x8,.string x9,.string x10,.string x11,.string x12] 25))
 have H:=zAA (PairIs.only h HO.out (by simp))
 have HWS:=zAA (hws.only HO.out (by simp))
 rw[hr]at HTM
 simp only[if_true]at HTM
 have hl1:(zAU (Mg.mk 4 s r cc x4 x5 x6 x7 x8 x9 x10 x11 x12)).length=1:=rfl
 have hlb:((r:Int) != (lo:Int))=false:=by rw[bne_eq_false_iff_eq];omega
 clear hr hl
 rw[ht]at HT
 replace HOL:=zAA (HOL.out ht)
 clear ht
 rw[decide_eq_true ho]at HOL
 clear ho
 clear h hws h1 h2
 go_enter func31,ntmps31
 go_upto_region 1 with fail
 generalize (w.alloc (.cells #[.int .i64 4,.int .u32 (s:Nat),.int .u32 (r:Nat),.int .u64 (cc:Nat),.string x4,.string x5,.string x6,.string x7,.string x8,.string x9,.string x10,.string x11,.string x12] 25))=v0 at *
 have c0:=H.out.cell 0;have c1:=H.out.cell 1;have c2:=H.out.cell 2;have c3:=H.out.cell 3;have c4:=H.out.cell 4;have c5:=H.out.cell 5;have c6:=H.out.cell 6;have c7:=H.out.cell 7;simp at c0 c1 c2 c3 c4 c5 c6 c7
 have m0:=HMB.out.cell 0;have m1:=HMB.out.cell 1;have m2:=HMB.out.cell 2;have m3:=HMB.out.cell 3;have m4:=HMB.out.cell 4;have m5:=HMB.out.cell 5;have m6:=HMB.out.cell 6;have m7:=HMB.out.cell 7;have m8:=HMB.out.cell 8;have m9:=HMB.out.cell 9;have m10:=HMB.out.cell 10;have m11:=HMB.out.cell 11;have m12:=HMB.out.cell 12;simp at m0 m1 m2 m3 m4 m5 m6 m7 m8 m9 m10 m11 m12
 go_upto_region 5 with (go_at_call 56;refine(HTM.out _).mono ?_;rintro e v1 ⟨ho,v,rfl,hrd⟩;obtain⟨A2,cp,hv,hcc,hmm⟩:=hrd.form;replace hv:v=.slice A2 1 cp:=hv;subst hv;replace H:=zAA (PairIs.only H.out ho (by simp));replace HWS:=zAA (HWS.out.only ho (by simp));replace HMB:=zAA (HMB.out.only ho (by simp));replace HO:=zAA (HO.out.trans ho);clear ho hrd hcc hmm;(first|(clear c0 c1 c2 c3 c4 c5 c6 c7 m0 m1 m2 m3 m4 m5 m6 m7 m8 m9 m10 m11 m12)|skip);have c0:=H.out.cell 0;have c1:=H.out.cell 1;have c2:=H.out.cell 2;have c3:=H.out.cell 3;have c4:=H.out.cell 4;have c5:=H.out.cell 5;have c6:=H.out.cell 6;have c7:=H.out.cell 7;simp at c0 c1 c2 c3 c4 c5 c6 c7;have m0:=HMB.out.cell 0;have m1:=HMB.out.cell 1;have m2:=HMB.out.cell 2;have m3:=HMB.out.cell 3;have m4:=HMB.out.cell 4;have m5:=HMB.out.cell 5;have m6:=HMB.out.cell 6;have m7:=HMB.out.cell 7;have m8:=HMB.out.cell 8;have m9:=HMB.out.cell 9;have m10:=HMB.out.cell 10;have m11:=HMB.out.cell 11;have m12:=HMB.out.cell 12;simp at m0 m1 m2 m3 m4 m5 m6 m7 m8 m9 m10 m11 m12)
 clear c0 c1 c2 c3 c4 c5 c6 c7 m0 m1 m2 m3 m4 m5 m6 m7 m8 m9 m10 m11 m12
 refine wp_region_held_drew (S:=fun W=>Only [] v1 W) (by kernel_rfl) (by exact(Only.refl [] v1).drew) (fun hHeld=>?_)
 generalize v1.drew=wd5 at *
 refine wpAnyH_take (i:=0) (v:=?_) rfl (by kernel_rfl) (by kernel_rfl) (by kernel_rfl) (fun _ _ _ h=>h) (Or.inl ⟨by rfl,?_⟩) (by assumption) ?_
 rotate_left
 ·(intro w hSw;(try dsimp only at hSw);go_simp;try with_reducible rfl)
 try simp only[List.getElem_toArray,List.getElem_cons_succ,List.getElem_cons_zero,Act.put,List.setIfInBounds_toArray,List.set_cons_zero,List.set_cons_succ]
 refine wpAnyH_take (i:=1) (v:=?_) rfl (by kernel_rfl) (by kernel_rfl) (by kernel_rfl) (fun _ _ _ h=>h) (Or.inl ⟨by rfl,?_⟩) (by assumption) ?_
 rotate_left
 ·(intro w hSw;(try dsimp only at hSw);have HMw:=HMB.out.only hSw (by simp);have m2:=HMw.cell 2;simp at m2;clear HMw;go_simp;try with_reducible rfl)
 try simp only[List.getElem_toArray,List.getElem_cons_succ,List.getElem_cons_zero,Act.put,List.setIfInBounds_toArray,List.set_cons_zero,List.set_cons_succ]
 refine wpAnyH_take (i:=2) (v:=?_) rfl (by kernel_rfl) (by kernel_rfl) (by kernel_rfl) (fun _ _ _ h=>h) (Or.inl ⟨by rfl,?_⟩) (by assumption) ?_
 rotate_left
 ·(intro w hSw;(try dsimp only at hSw);go_simp;try with_reducible rfl)
 try simp only[List.getElem_toArray,List.getElem_cons_succ,List.getElem_cons_zero,Act.put,List.setIfInBounds_toArray,List.set_cons_zero,List.set_cons_succ]
 refine wpAnyH_take (i:=3) (v:=?_) rfl (by kernel_rfl) (by kernel_rfl) (by kernel_rfl) (fun _ _ _ h=>h) (Or.inl ⟨by rfl,?_⟩) (by assumption) ?_
 rotate_left
 ·(intro w hSw;(try dsimp only at hSw);go_simp;try with_reducible rfl)
 try simp only[List.getElem_toArray,List.getElem_cons_succ,List.getElem_cons_zero,Act.put,List.setIfInBounds_toArray,List.set_cons_zero,List.set_cons_succ]
 refine wpAnyH_take (i:=4) (v:=?_) rfl (by kernel_rfl) (by kernel_rfl) (by kernel_rfl) (fun _ _ _ h=>h) (Or.inl ⟨by rfl,?_⟩) (by assumption) ?_
 rotate_left
 ·(intro w hSw;(try dsimp only at hSw);go_simp;try with_reducible rfl)
 try simp only[List.getElem_toArray,List.getElem_cons_succ,List.getElem_cons_zero,Act.put,List.setIfInBounds_toArray,List.set_cons_zero,List.set_cons_succ]
 refine wpAnyH_take (i:=5) (v:=?_) rfl (by kernel_rfl) (by kernel_rfl) (by kernel_rfl) (fun _ _ _ h=>h) (Or.inl ⟨by rfl,?_⟩) (by assumption) ?_
 rotate_left
 ·(intro w hSw;(try dsimp only at hSw);have HPw:=PairIs.only H.out hSw (by simp);have c2:=Blk.cell HPw 2;simp at c2;clear HPw;go_simp;try with_reducible rfl)
 try simp only[List.getElem_toArray,List.getElem_cons_succ,List.getElem_cons_zero,Act.put,List.setIfInBounds_toArray,List.set_cons_zero,List.set_cons_succ]
 refine wpAnyH_take (i:=6) (v:=?_) rfl (by kernel_rfl) (by kernel_rfl) (by kernel_rfl) (fun _ _ _ h=>h) (Or.inl ⟨by rfl,?_⟩) (by assumption) ?_
 rotate_left
 ·(intro w hSw;(try dsimp only at hSw);go_simp;try with_reducible rfl)
 try simp only[List.getElem_toArray,List.getElem_cons_succ,List.getElem_cons_zero,Act.put,List.setIfInBounds_toArray,List.set_cons_zero,List.set_cons_succ]
 refine wpAnyH_take (i:=7) (v:=?_) rfl (by kernel_rfl) (by kernel_rfl) (by kernel_rfl) (fun _ _ _ h=>h) (Or.inl ⟨by rfl,?_⟩) (by assumption) ?_
 rotate_left
 ·(intro w hSw;(try dsimp only at hSw);go_simp;try with_reducible rfl)
 try simp only[List.getElem_toArray,List.getElem_cons_succ,List.getElem_cons_zero,Act.put,List.setIfInBounds_toArray,List.set_cons_zero,List.set_cons_succ]
 refine wpAnyH_done (by kernel_rfl) ?_ _
 replace H:=zAA (PairIs.only H.out hHeld (by simp))
 replace HWS:=zAA (HWS.out.only hHeld (by simp))
 replace HMB:=zAA (HMB.out.only hHeld (by simp))
 replace HO:=zAA (HO.out.trans hHeld)
 have c0:=H.out.cell 0;have c1:=H.out.cell 1;have c2:=H.out.cell 2;have c3:=H.out.cell 3;have c4:=H.out.cell 4;have c5:=H.out.cell 5;have c6:=H.out.cell 6;have c7:=H.out.cell 7;simp at c0 c1 c2 c3 c4 c5 c6 c7
 have m0:=HMB.out.cell 0;have m1:=HMB.out.cell 1;have m2:=HMB.out.cell 2;have m3:=HMB.out.cell 3;have m4:=HMB.out.cell 4;have m5:=HMB.out.cell 5;have m6:=HMB.out.cell 6;have m7:=HMB.out.cell 7;have m8:=HMB.out.cell 8;have m9:=HMB.out.cell 9;have m10:=HMB.out.cell 10;have m11:=HMB.out.cell 11;have m12:=HMB.out.cell 12;simp at m0 m1 m2 m3 m4 m5 m6 m7 m8 m9 m10 m11 m12
 clear hHeld
 go_wp2_with (first|(go_at_call 69;refine(HT.out _).mono ?_;rintro e wz ⟨rfl,rfl⟩)|(go_at_call 71;refine(HOL.out _ H.out).mono ?_;rintro e wz ⟨rfl,rfl⟩))
 go_ret2
 exact zB4 HV.out H.out HWS.out HO.out
theorem zJh(w:World)(g c:Nat)(s1 s2:ByteArray)(lo re:Nat)(beg:Bool)(made:Int)(n:Nat)(L:List Nat)(h:PairIs w g c s1 s2 lo re beg made n)(hws:WinSet w c L)(now:Int)(h1:0<=made)(h2:made<=1125899906842624)(s r cc:Nat)(x4 x5 x6 x7 x8 x9 x10 x11 x12:ByteArray)(hF:(Mg.mk 4 s r cc x4 x5 x6 x7 x8 x9 x10 x11 x12).Fine)(hr:zAG (Mg.mk 4 s r cc x4 x5 x6 x7 x8 x9 x10 x11 x12)=true)(hl:¬r≠lo)(ht:zAc now=true)(ho:¬180000<=zBn made now)(hn:18446744073709543423<=cc):Calls prog 31 #[.pointer (some ⟨g,0,none⟩),.int .i64 now,.agg #[.int .i64 4,.int .u32 (s:Nat),.int .u32 (r:Nat),.int .u64 (cc:Nat),.string x4,.string x5,.string x6,.string x7,.string x8,.string x9,.string x10,.string x11,.string x12]] w (zA3 g c s1 s2 lo re beg made n (zAj lo made s2 L now ⟨4,s,r,cc,x4,x5,x6,x7,x8,x9,x10,x11,x12⟩) w):=by
 have HV:=zAA (show zAj lo made s2 L now ⟨4,s,r,cc,x4,x5,x6,x7,x8,x9,x10,x11,x12⟩=([],10,L)by unfold zAj;rw[if_neg (fun h=>h ⟨rfl,hr⟩),if_neg hl,if_neg (by rw[ht];decide),if_pos (.inr hn)])
 have hgc:g≠c:=by obtain⟨cs,hb⟩:=hws.blk;exact Blk.ne_ h hb (by decide)
 have hmc:w.heap.size≠c:=by have:=hws.lt;omega
 have HT:=zAA (fun W=>zAx now W)
 have HOL:=zAA (fun(ht:zAc now=true) W (hw:PairIs W g c s1 s2 lo re beg made n)=>zBT W g c s1 s2 lo re beg made n hw now h1 h2 ((zAT now).1 ht).1 ((zAT now).1 ht).2)
 have HTM:=zAA (fun W=>zBQ W ⟨4,s,r,cc,x4,x5,x6,x7,x8,x9,x10,x11,x12⟩ hF)
 unfold zAp at HTM
 have HMB:=zAA (Blk.new w 25 #[.int .i64 4,.int .u32 (s:Nat),.int .u32 (r:Nat),.int .u64 (cc:Nat),.string x4,.string x5,.string x6,.string x7,.string x8,.string x9,.string x10,.string x11,.string x12])
 have HO:=zAA ((Only.refl [] w).alloc (.cells #[.int .i64 4,.int .u32 (s:Nat),.int .u32 (r:Nat),.int .u64 (cc:Nat),.string x4,.string x5,.string x6,.string x7,.string x8,.string x9,.string x10,.string x11,.string x12] 25))
 have H:=zAA (PairIs.only h HO.out (by simp))
 have HWS:=zAA (hws.only HO.out (by simp))
 rw[hr]at HTM
 simp only[if_true]at HTM
 have hl1:(zAU (Mg.mk 4 s r cc x4 x5 x6 x7 x8 x9 x10 x11 x12)).length=1:=rfl
 have hlb:((r:Int) != (lo:Int))=false:=by rw[bne_eq_false_iff_eq];omega
 clear hr hl
 rw[ht]at HT
 replace HOL:=zAA (HOL.out ht)
 clear ht
 rw[decide_eq_false ho]at HOL
 have h3:decide ((18446744073709543423:Int)<=cc)=true:=by rw[decide_eq_true_iff];omega
 clear ho hn
 clear h hws h1 h2
 go_enter func31,ntmps31
 go_upto_region 1 with fail
 generalize (w.alloc (.cells #[.int .i64 4,.int .u32 (s:Nat),.int .u32 (r:Nat),.int .u64 (cc:Nat),.string x4,.string x5,.string x6,.string x7,.string x8,.string x9,.string x10,.string x11,.string x12] 25))=v0 at *
 have c0:=H.out.cell 0;have c1:=H.out.cell 1;have c2:=H.out.cell 2;have c3:=H.out.cell 3;have c4:=H.out.cell 4;have c5:=H.out.cell 5;have c6:=H.out.cell 6;have c7:=H.out.cell 7;simp at c0 c1 c2 c3 c4 c5 c6 c7
 have m0:=HMB.out.cell 0;have m1:=HMB.out.cell 1;have m2:=HMB.out.cell 2;have m3:=HMB.out.cell 3;have m4:=HMB.out.cell 4;have m5:=HMB.out.cell 5;have m6:=HMB.out.cell 6;have m7:=HMB.out.cell 7;have m8:=HMB.out.cell 8;have m9:=HMB.out.cell 9;have m10:=HMB.out.cell 10;have m11:=HMB.out.cell 11;have m12:=HMB.out.cell 12;simp at m0 m1 m2 m3 m4 m5 m6 m7 m8 m9 m10 m11 m12
 go_upto_region 5 with (go_at_call 56;refine(HTM.out _).mono ?_;rintro e v1 ⟨ho,v,rfl,hrd⟩;obtain⟨A2,cp,hv,hcc,hmm⟩:=hrd.form;replace hv:v=.slice A2 1 cp:=hv;subst hv;replace H:=zAA (PairIs.only H.out ho (by simp));replace HWS:=zAA (HWS.out.only ho (by simp));replace HMB:=zAA (HMB.out.only ho (by simp));replace HO:=zAA (HO.out.trans ho);clear ho hrd hcc hmm;(first|(clear c0 c1 c2 c3 c4 c5 c6 c7 m0 m1 m2 m3 m4 m5 m6 m7 m8 m9 m10 m11 m12)|skip);have c0:=H.out.cell 0;have c1:=H.out.cell 1;have c2:=H.out.cell 2;have c3:=H.out.cell 3;have c4:=H.out.cell 4;have c5:=H.out.cell 5;have c6:=H.out.cell 6;have c7:=H.out.cell 7;simp at c0 c1 c2 c3 c4 c5 c6 c7;have m0:=HMB.out.cell 0;have m1:=HMB.out.cell 1;have m2:=HMB.out.cell 2;have m3:=HMB.out.cell 3;have m4:=HMB.out.cell 4;have m5:=HMB.out.cell 5;have m6:=HMB.out.cell 6;have m7:=HMB.out.cell 7;have m8:=HMB.out.cell 8;have m9:=HMB.out.cell 9;have m10:=HMB.out.cell 10;have m11:=HMB.out.cell 11;have m12:=HMB.out.cell 12;simp at m0 m1 m2 m3 m4 m5 m6 m7 m8 m9 m10 m11 m12)
 clear c0 c1 c2 c3 c4 c5 c6 c7 m0 m1 m2 m3 m4 m5 m6 m7 m8 m9 m10 m11 m12
 refine wp_region_held_drew (S:=fun W=>Only [] v1 W) (by kernel_rfl) (by exact(Only.refl [] v1).drew) (fun hHeld=>?_)
 generalize v1.drew=wd5 at *
 refine wpAnyH_take (i:=0) (v:=?_) rfl (by kernel_rfl) (by kernel_rfl) (by kernel_rfl) (fun _ _ _ h=>h) (Or.inl ⟨by rfl,?_⟩) (by assumption) ?_
 rotate_left
 ·(intro w hSw;(try dsimp only at hSw);go_simp;try with_reducible rfl)
 try simp only[List.getElem_toArray,List.getElem_cons_succ,List.getElem_cons_zero,Act.put,List.setIfInBounds_toArray,List.set_cons_zero,List.set_cons_succ]
 refine wpAnyH_take (i:=1) (v:=?_) rfl (by kernel_rfl) (by kernel_rfl) (by kernel_rfl) (fun _ _ _ h=>h) (Or.inl ⟨by rfl,?_⟩) (by assumption) ?_
 rotate_left
 ·(intro w hSw;(try dsimp only at hSw);have HMw:=HMB.out.only hSw (by simp);have m2:=HMw.cell 2;simp at m2;clear HMw;go_simp;try with_reducible rfl)
 try simp only[List.getElem_toArray,List.getElem_cons_succ,List.getElem_cons_zero,Act.put,List.setIfInBounds_toArray,List.set_cons_zero,List.set_cons_succ]
 refine wpAnyH_take (i:=2) (v:=?_) rfl (by kernel_rfl) (by kernel_rfl) (by kernel_rfl) (fun _ _ _ h=>h) (Or.inl ⟨by rfl,?_⟩) (by assumption) ?_
 rotate_left
 ·(intro w hSw;(try dsimp only at hSw);go_simp;try with_reducible rfl)
 try simp only[List.getElem_toArray,List.getElem_cons_succ,List.getElem_cons_zero,Act.put,List.setIfInBounds_toArray,List.set_cons_zero,List.set_cons_succ]
 refine wpAnyH_take (i:=3) (v:=?_) rfl (by kernel_rfl) (by kernel_rfl) (by kernel_rfl) (fun _ _ _ h=>h) (Or.inl ⟨by rfl,?_⟩) (by assumption) ?_
 rotate_left
 ·(intro w hSw;(try dsimp only at hSw);go_simp;try with_reducible rfl)
 try simp only[List.getElem_toArray,List.getElem_cons_succ,List.getElem_cons_zero,Act.put,List.setIfInBounds_toArray,List.set_cons_zero,List.set_cons_succ]
 refine wpAnyH_take (i:=4) (v:=?_) rfl (by kernel_rfl) (by kernel_rfl) (by kernel_rfl) (fun _ _ _ h=>h) (Or.inl ⟨by rfl,?_⟩) (by assumption) ?_
 rotate_left
 ·(intro w hSw;(try dsimp only at hSw);go_simp;try with_reducible rfl)
 try simp only[List.getElem_toArray,List.getElem_cons_succ,List.getElem_cons_zero,Act.put,List.setIfInBounds_toArray,List.set_cons_zero,List.set_cons_succ]
 refine wpAnyH_take (i:=5) (v:=?_) rfl (by kernel_rfl) (by kernel_rfl) (by kernel_rfl) (fun _ _ _ h=>h) (Or.inl ⟨by rfl,?_⟩) (by assumption) ?_
 rotate_left
 ·(intro w hSw;(try dsimp only at hSw);have HPw:=PairIs.only H.out hSw (by simp);have c2:=Blk.cell HPw 2;simp at c2;clear HPw;go_simp;try with_reducible rfl)
 try simp only[List.getElem_toArray,List.getElem_cons_succ,List.getElem_cons_zero,Act.put,List.setIfInBounds_toArray,List.set_cons_zero,List.set_cons_succ]
 refine wpAnyH_take (i:=6) (v:=?_) rfl (by kernel_rfl) (by kernel_rfl) (by kernel_rfl) (fun _ _ _ h=>h) (Or.inl ⟨by rfl,?_⟩) (by assumption) ?_
 rotate_left
 ·(intro w hSw;(try dsimp only at hSw);go_simp;try with_reducible rfl)
 try simp only[List.getElem_toArray,List.getElem_cons_succ,List.getElem_cons_zero,Act.put,List.setIfInBounds_toArray,List.set_cons_zero,List.set_cons_succ]
 refine wpAnyH_take (i:=7) (v:=?_) rfl (by kernel_rfl) (by kernel_rfl) (by kernel_rfl) (fun _ _ _ h=>h) (Or.inl ⟨by rfl,?_⟩) (by assumption) ?_
 rotate_left
 ·(intro w hSw;(try dsimp only at hSw);go_simp;try with_reducible rfl)
 try simp only[List.getElem_toArray,List.getElem_cons_succ,List.getElem_cons_zero,Act.put,List.setIfInBounds_toArray,List.set_cons_zero,List.set_cons_succ]
 refine wpAnyH_done (by kernel_rfl) ?_ _
 replace H:=zAA (PairIs.only H.out hHeld (by simp))
 replace HWS:=zAA (HWS.out.only hHeld (by simp))
 replace HMB:=zAA (HMB.out.only hHeld (by simp))
 replace HO:=zAA (HO.out.trans hHeld)
 have c0:=H.out.cell 0;have c1:=H.out.cell 1;have c2:=H.out.cell 2;have c3:=H.out.cell 3;have c4:=H.out.cell 4;have c5:=H.out.cell 5;have c6:=H.out.cell 6;have c7:=H.out.cell 7;simp at c0 c1 c2 c3 c4 c5 c6 c7
 have m0:=HMB.out.cell 0;have m1:=HMB.out.cell 1;have m2:=HMB.out.cell 2;have m3:=HMB.out.cell 3;have m4:=HMB.out.cell 4;have m5:=HMB.out.cell 5;have m6:=HMB.out.cell 6;have m7:=HMB.out.cell 7;have m8:=HMB.out.cell 8;have m9:=HMB.out.cell 9;have m10:=HMB.out.cell 10;have m11:=HMB.out.cell 11;have m12:=HMB.out.cell 12;simp at m0 m1 m2 m3 m4 m5 m6 m7 m8 m9 m10 m11 m12
 clear hHeld
 go_wp2_with (first|(go_at_call 69;refine(HT.out _).mono ?_;rintro e wz ⟨rfl,rfl⟩)|(go_at_call 71;refine(HOL.out _ H.out).mono ?_;rintro e wz ⟨rfl,rfl⟩))
 go_ret2
 exact zB4 HV.out H.out HWS.out HO.out
end
end Go.Proofs.YtfipdjlalfpbnaaGreatDoor
