/-
  Walks and plain words (texts Rt9, Rt10). No condition beyond those that each theorem states.
-/
import Derived.Test.YtfipdjlalfpbnaaGreatDoorA10
namespace Go.Proofs.YtfipdjlalfpbnaaGreatDoor
section
open Go.Proofs.Tryz
set_option maxHeartbeats 12800000
set_option maxRecDepth 100000
open Go.RowKit Go.Deep

theorem zGs(s:ByteArray)(f:Nat)(hT:∀f',f'<=f->zEc s f')(w:World)(p:Nat)(_hp:p<=s.size)(hs:s.size<=1000000)(hf:2*(s.size-p)+1<=f+1)(hk5:5<=zAQ (atV s p:Nat))(hkv:zAQ (atV s p:Nat)=11)(h40:atV s (p+1)=40) :
  Calls prog 97 #[.string s,.int .i64 p] w (zAe (rt s (f+1) none p) w):=by
 have HA:=zAA (fun W (q:Nat)=>zDz W s q (by unfold maxLen;omega))
 have HK:=zAA (fun W=>zCX (atV s p:Nat) W)
 have hp1:=zCC (s:=s) (p:=p+1) (by omega)
 have hkr:=(zBq (atV s p:Nat)).2
 have HRN:=zAA (fun h8=>zGB (s:=s) (f:=f) (p:=p) (zAQ (atV s p:Nat)) rfl h8 h40)
 have HRO:=zAA (fun h8=>zEb (s:=s) (f:=f) (p:=p) (zAQ (atV s p:Nat)) rfl hk5 h8 h40)
 have HA1:=zAA (show ∀W,Calls prog 123 #[.string s,.int .i64 ((p:Int)+1)] W fun e w'=>e=.returned (.int .u8 40)∧W=w' from fun W=>by have h:=HA.out W (p+1);rw[h40]at h;rwa [show((p+1:Nat):Int)=(p:Int)+1 by omega]at h)
 rw[hkv]at HK HRN HRO
 clear hkv hk5 hkr
 generalize rt s (f+1) none p=R at *
 have e0:((11:Int)==0)=false:=by rw[beq_eq_false_iff_ne];omega
 have h4I:¬(11:Int)<=4:=by omega
 have HB:=zAA ((Blk.new w 77 zBG).alloc (.cells #[.int .i64 11,.int .u64 0,.slice none 0 0,.slice none 0 0] 77))
 have HM:=zAA (Blk.new (w.alloc (.cells zBG 77)) 77 #[.int .i64 11,.int .u64 0,.slice none 0 0,.slice none 0 0])
 simp only[World.size_alloc]at HM
 have HO:=zAA (((Only.refl [] w).alloc (.cells zBG 77)).alloc (.cells #[.int .i64 11,.int .u64 0,.slice none 0 0,.slice none 0 0] 77))
 have HT:=zAA hT
 have HFF:=zAA hf
 clear hT hf h40
 have HRR:=zAA (HRO.out (by first|decide|(rintro(h|h)<;>contradiction)))
 go_enter func97,ntmps97
 go_upto_if 46 with (first
  | (go_at_call 123;(with_reducible refine(HA1.out _).mono ?_);rintro e w1 ⟨rfl,rfl⟩)
  | (go_at_call 123;refine(HA.out _ _).mono ?_;rintro e w1 ⟨rfl,rfl⟩)
  | (go_at_call 122;refine(HK.out _).mono ?_;rintro e w1 ⟨rfl,rfl⟩))
 go_cut [1] (fun iv wr=>∃(n j:Nat),iv=.int .i64 (j:Nat)∧p+2<=j∧j<=s.size∧Hid (rst s f (11:Int) n j=R)∧Hid (Blk wr (w.heap.size+1) 77 #[.int .i64 (11:Int),.int .u64 (n:Nat),.slice none 0 0,.slice none 0 0])∧Hid (Blk wr w.heap.size 77 zBG)∧Hid (Only [] w wr))
 case first =>
  go_wp2_with fail
  go_meet
  exact⟨0,p+2,(by go_num),by omega,by omega,zAA HRR.out.symm,HM,HB,HO⟩
 case rest =>
  obtain⟨n,j,rfl,hj1,hj2,HST,HM1,HB1,HO1⟩:=hcut
  have HAJ:=zAA (fun W=>HA.out W j)
  by_cases h41J:atV s j=41
  ·rw[h41J]at HAJ
   have hjlt:=zCC (s:=s) (p:=j) (by omega)
   have HR:=zAA (HST.out.symm.trans (show rst s f 11 n j=some ((11,n,[],[]),j+1)by unfold rst;rw[if_pos ⟨rfl,h41J⟩]))
   have z0:=HB1.out.cell 0
   have z1:=HB1.out.cell 1
   have z2:=HB1.out.cell 2
   have z3:=HB1.out.cell 3
   simp at z0 z1 z2 z3
   have zf:=HB1.out.frozen
   have x0:=HM1.out.cell 0
   have x1:=HM1.out.cell 1
   have x2:=HM1.out.cell 2
   have x3:=HM1.out.cell 3
   simp at x0 x1 x2 x3
   clear HST HM HB HO
   go_wp2_with (go_at_call 123;refine(HAJ.out _).mono ?_;rintro e w9 ⟨rfl,rfl⟩)
   refine bodyPost_ret (zAC rfl _ _ w.heap.size 77 _ (0,0) _ rfl (((((HB1.out.set_ 0 _).set_ 1 _).set_ 2 _).set_ 3 _)) underlying77 rfl (by kernel_rfl)) rfl ?_
   exact zB7 HR.out (zAV HO1.out (.inr (Nat.le_refl _))) (zDB ⟨by simp[zAq],.inl ⟨rfl,rfl⟩⟩ HB1.out (by decide)) rfl (by go_num)
  ·have h41J2:(((atV s j:Nat):Int)==41)=false:=by rw[beq_eq_false_iff_ne];omega
   have HST:=zAA (HST.out.symm.trans (show rst s f 11 n j=rt s f (some (11,n,[])) j by unfold rst;rw[if_neg (by rintro⟨_,h⟩;exact h41J h)]))
   clear h41J
   obtain⟨i0,hi,hz0,hz1,hz2⟩:=info_parts (show(prog.info? 9).map (fun i=>(i.zero,i.size,i.bytes))=some (some (.string ByteArray.empty),1,16)by kernel_rfl)
   clear HM HB HO
   go_wp2_with (go_at_call 123;refine(HAJ.out _).mono ?_;rintro e w9 ⟨rfl,rfl⟩)
   go_loopw [1] (fun iv wr2=>∃(j f1:Nat) (parts:List ByteArray) (A:Option Addr) (c:Nat),iv=.int .i64 (j:Nat)∧j<=s.size∧2*(s.size-j)+2<=f1∧f1<=f∧parts.length<=j∧Hid (R=rt s f1 (some ((11:Int),n,parts)) j)∧Hid (Blk wr2 (w.heap.size+1) 77 #[.int .i64 (11:Int),.int .u64 (n:Nat),.slice none 0 0,.slice A parts.length c])∧Hid (wr2.ownsRow w.heap.size 9 1 (.slice A parts.length c) parts.length (zAq parts))∧Hid (Blk wr2 w.heap.size 77 zBG)∧Hid (Only [] w wr2)) (fun iv _=>s.size-(intOf iv).toNat)
   case atStart=>exact⟨j,f,[],none,0,rfl,hj2,by have:=HFF.out;omega,Nat.le_refl _,by simp,HST,HM1,zAA ⟨by simp[zAq],.inl ⟨rfl,rfl⟩⟩,HB1,HO1⟩
   case round =>
    clear HM1 HB1 HO1 HST hj1 hj2
    obtain⟨j,f1,parts,A,c,rfl,hj,hf1,hff,hpl,HST,HM1,HOW,HB1,HO1⟩:=hrel
    obtain⟨f2,rfl⟩:∃f2,f1=f2+1:=⟨f1-1,by omega⟩
    have HC:=zAA (HT.out f2 (by omega) wr j hj hs (by omega))
    have hst:=HST.out
    rw[rt]at hst
    have hbd:=zJE s f2 none j
    cases hq:rt s f2 none j with
    | none =>
     rw[hq]at hst HC
     simp only at hst
     have HR:=zAA hst
     unfold zAe at HC
     simp only at HC
     clear hst hq hbd HST
     go_wp2_with (go_at_call 97;refine HC.out.mono ?_;rintro e w2 ⟨rfl,ho⟩;have HO1:=zAA ((HO1.out.trans ho).alloc (.cells #[.int .i64 0,.int .u64 0,.slice none 0 0,.slice none 0 0] 77));have HB1:=zAA ((HB1.out.only ho (by simp)).alloc (.cells #[.int .i64 0,.int .u64 0,.slice none 0 0,.slice none 0 0] 77));have z0:=HB1.out.cell 0;have z1:=HB1.out.cell 1;have z2:=HB1.out.cell 2;have z3:=HB1.out.cell 3;simp at z0 z1 z2 z3;have zf:=HB1.out.frozen;clear ho)
     refine bodyPost_ret (zAC rfl _ _ w.heap.size 77 _ (0,0) _ rfl (((((HB1.out.set_ 0 _).set_ 1 _).set_ 2 _).set_ 3 _)) underlying77 rfl (by kernel_rfl)) rfl ?_
     exact zAo HR.out (zAV HO1.out (.inr (Nat.le_refl _)))
    | some nq =>
     obtain⟨⟨k2,n2,l2,ps2⟩,q⟩:=nq
     rw[hq]at hst HC
     simp only at hst
     have hb2:=hbd _ _ hq
     unfold zAe at HC
     simp only at HC
     clear hbd hq HST
     go_upto_region 22 with (go_at_call 97;refine HC.out.mono ?_;rintro e w2 ⟨bv,pv,rfl,ho,hbb,hpp⟩;obtain⟨Ab,cb,rfl,_,_⟩:=(hbb [] (by simp)).formb;obtain⟨Ap,cp,rfl,_,_⟩:=(hpp [] (by simp)).form;have HO1:=zAA ((HO1.out.trans ho).alloc (.cells #[.int .i64 k2,.int .u64 (n2:Nat),.slice Ab l2.length cb,.slice Ap (zAq ps2).length cp] 77));have HB1:=zAA ((HB1.out.only ho (by simp)).alloc (.cells #[.int .i64 k2,.int .u64 (n2:Nat),.slice Ab l2.length cb,.slice Ap (zAq ps2).length cp] 77));have HM1:=zAA ((HM1.out.only ho (by simp)).alloc (.cells #[.int .i64 k2,.int .u64 (n2:Nat),.slice Ab l2.length cb,.slice Ap (zAq ps2).length cp] 77));have HOW:=zAA ((zAa HOW.out ho (by simp)).alloc (.cells #[.int .i64 k2,.int .u64 (n2:Nat),.slice Ab l2.length cb,.slice Ap (zAq ps2).length cp] 77));clear ho hbb hpp)
     generalize (w2.alloc (.cells #[.int .i64 k2,.int .u64 (n2:Nat),.slice Ab l2.length cb,.slice Ap (zAq ps2).length cp] 77))=wA at *
     have m3:=HM1.out.cell 3
     simp at m3
     have hqj:(j:Int)<=q:=by omega
     have hqs:(q:Int)<=s.size:=by omega
     have HSZ:=zAA HO1.out.size
     have HLM:=zAA HM1.out.lt
     have HRN:=zAA (zAi wA.drew 9 (.string (s.extract j q)) (wA.heap.size+1) (Nat.lt_succ_self _))
     have HOW2:=zAA (World.ownsRow.alloc (zAa HOW.out ((Only.refl [] wA).drew) (by simp)) (.cells #[.string (s.extract j q)] 9))
     have HM2:=zAA (HM1.out.drew.alloc (.cells #[.string (s.extract j q)] 9))
     have m3b:=(HM1.out.alloc (.cells #[.string (s.extract j q)] 9)).cell 3
     simp at m3b
     have HB2:=zAA (HB1.out.drew.alloc (.cells #[.string (s.extract j q)] 9))
     have HO2:=zAA (HO1.out.drew.alloc (.cells #[.string (s.extract j q)] 9))
     go_region_law (first
      | (refine zAt _ rfl (.tmp 104) (.tmp 109) 75 rfl w.heap.size 9 i0 (.string ByteArray.empty) 1 16 underlying75 hi hz0 hz1 hz2 rfl (by decide) _ parts.length _ rfl HOW2.out _ _ 1 1 [.string (s.extract j q)] rfl HRN.out (by simp[Value.oneCell']) (by unfold maxLen;omega) (by omega) (by have:=HSZ.out;simp;omega) ?_;intro v1 w3 hown1 hg1 _;rw[zCA]at hown1;obtain⟨A1,c1,rfl,_,_⟩:=zAh hown1;have HM3:=zAA (HM2.out.grown hg1 (zCZ HOW2.out HM2.out (by decide)));have HB3:=zAA (HB2.out.grown hg1 (zCZ HOW2.out HB2.out (by decide)));have HO3:=zAA (HO2.out.grown hg1 (fun jj hjj=>.inr (zAP HOW2.out hjj)));have HOW3:=zAA hown1;have y0:=HM3.out.cell 0;have y1:=HM3.out.cell 1;have y2:=HM3.out.cell 2;have y3:=HM3.out.cell 3;simp at y0 y1 y2 y3;have yf:=HM3.out.frozen;clear hown1 hg1))
     all_goals
      have HM4:=zAA (HM3.out.set_ 3 (.slice A1 (parts.length+1) c1))
      have HB4:=zAA (HB3.out.far (p:=⟨w.heap.size+1,3,none⟩) (by simp) (.slice A1 (parts.length+1) c1))
      have HO4:=zAA (HO3.out.setCell (p:=⟨w.heap.size+1,3,none⟩) (.inr (by simp)) (.slice A1 (parts.length+1) c1))
      have HOW4:=zAA (zCi HOW3.out HM3.out (by decide) 3 (.slice A1 (parts.length+1) c1))
      go_upto_region 23 with (fail)
      generalize w3.setCell ⟨w.heap.size+1,3,none⟩ (.slice A1 (parts.length+1) c1)=w4 at *
      have z0:=HB4.out.cell 0
      have z1:=HB4.out.cell 1
      have z2:=HB4.out.cell 2
      have z3:=HB4.out.cell 3
      simp at z0 z1 z2 z3
      have zf:=HB4.out.frozen
      have x0:=HM4.out.cell 0
      have x1:=HM4.out.cell 1
      have x2:=HM4.out.cell 2
      have x3:=HM4.out.cell 3
      simp at x0 x1 x2 x3
      have HAQ:=zAA (fun W=>HA.out W q)
      clear y0 y1 y2 y3 yf m3 m3b
      by_cases h41:atV s q=41
      ·rw[if_pos h41]at hst
       rw[h41]at HAQ
       have hqlt:=zCC (s:=s) (p:=q) (by omega)
       have HRG:=zAA (fun W=>zCY (11:Int) ((parts.length+1:Nat):Int) W)
       cases hrt:zBc (11:Int) ((parts.length+1:Nat):Int)with
       | false =>
        rw[if_neg (by rintro⟨h,_⟩;rw[hrt]at h;cases h)]at hst
        rw[hrt]at HRG
        have HR:=zAA hst
        clear hst hrt h41
        go_wp2_with (go_at_call 123;refine(HAQ.out _).mono ?_;rintro e w9 ⟨rfl,rfl⟩)
        go_quiet (exact zA9 (HRG.out _))
        go_wp2_with fail
        refine bodyPost_ret (zAC rfl _ _ w.heap.size 77 _ (0,0) _ rfl ((((((HB4.out.drewN _).set_ 0 _).set_ 1 _).set_ 2 _).set_ 3 _)) underlying77 rfl (by kernel_rfl)) rfl ?_
        exact zAo HR.out (zAV (HO4.out.drewN _) (.inr (Nat.le_refl _)))
       | true =>
        rw[if_pos ⟨hrt,(by rintro⟨h,_⟩;exact absurd h (by decide))⟩]at hst
        rw[hrt]at HRG
        have HR:=zAA hst
        clear hst hrt h41
        go_wp2_with (go_at_call 123;refine(HAQ.out _).mono ?_;rintro e w9 ⟨rfl,rfl⟩)
        go_quiet (exact zA9 (HRG.out _))
        go_wp2_with fail
        refine bodyPost_ret (zAC rfl _ _ w.heap.size 77 _ (0,0) _ rfl ((((((HB4.out.drewN _).set_ 0 _).set_ 1 _).set_ 2 _).set_ 3 _)) underlying77 rfl (by kernel_rfl)) rfl ?_
        exact zB7 HR.out (zAV (HO4.out.drewN _) (.inr (Nat.le_refl _))) (zDB (zAa HOW4.out ((Only.refl [] w4).drewN _) (by simp)) (HB4.out.drewN _) (by decide)) (by rw[List.length_append,List.length_singleton]) (by go_num)
      ·rw[if_neg h41]at hst
       have h41I:(((atV s q:Nat):Int)==41)=false:=by rw[beq_eq_false_iff_ne];omega
       by_cases h44:atV s q=44
       ·rw[if_neg (by rw[h44];simp)]at hst
        rw[h44]at HAQ
        have hqlt:=zCC (s:=s) (p:=q) (by omega)
        have HR:=zAA hst
        clear hst h41 h41I
        go_wp2_with (go_at_call 123;refine(HAQ.out _).mono ?_;rintro e w9 ⟨rfl,rfl⟩)
        go_roundw
        case rel=>exact⟨q+1,f2,parts++[s.extract j q],A1,c1,(by go_num),by omega,by omega,by omega,(by rw[List.length_append,List.length_singleton];omega),HR,(by rw[List.length_append,List.length_singleton];exact HM4),(by rw[List.length_append,List.length_singleton];exact HOW4),HB4,HO4⟩
        case measure=>simp[intOf];omega
       ·rw[if_pos h44]at hst
        have h44I:(((atV s q:Nat):Int) != 44)=true:=by rw[bne_iff_ne];omega
        have HR:=zAA hst
        clear hst h41
        go_wp2_with (go_at_call 123;refine(HAQ.out _).mono ?_;rintro e w9 ⟨rfl,rfl⟩)
        refine bodyPost_ret (zAC rfl _ _ w.heap.size 77 _ (0,0) _ rfl (((((HB4.out.set_ 0 _).set_ 1 _).set_ 2 _).set_ 3 _)) underlying77 rfl (by kernel_rfl)) rfl ?_
        exact zAo HR.out (zAV HO4.out (.inr (Nat.le_refl _)))
end
section
open Go.Proofs.Tryz
set_option maxHeartbeats 12800000
set_option maxRecDepth 100000
open Go.RowKit Go.Deep

theorem zLv{w:World}{base e m c:Nat}{A:Option Addr}{l:List ByteArray}(h:w.ownsRow base e 1 (.slice A m c) m (zAq l))(hl:2<=l.length) :
  ∃g,A=some ⟨g,0,none⟩∧w.cell? ⟨g,0,none⟩=some (.string (l.getD 0 ByteArray.empty))∧w.cell? ⟨g,1,none⟩=some (.string (l.getD 1 ByteArray.empty)):=by
 have hm:l.length=m:=by have:=h.1;rw[zBN]at this;omega
 rcases h.2 with ⟨_,h0⟩|⟨g,cap,cur,hv,hb,hh,h1,h2,h3,h4⟩
 ·omega
 ·injection hv with hA
  subst hA
  have key:∀i,i<l.length->cur[i]?=some (.string (l.getD i ByteArray.empty)):=by
   intro i hi
   have e1:cur.toList[i]?=(cur.toList.take (m*1))[i]?:=by rw[List.getElem?_take,if_pos (by omega)]
   rw[<-Array.getElem?_toList,e1,h4]
   simp[zAq,List.getElem?_eq_getElem hi]
  have hk:Blk w g e cur:=hh
  have c0:=hk.cell 0
  have c1:=hk.cell 1
  rw[key 0 (by omega)]at c0
  rw[key 1 (by omega)]at c1
  exact⟨g,rfl,by simpa using c0,by simpa using c1⟩

theorem zIG(s:ByteArray)(f:Nat)(hT:∀f',f'<=f->zEc s f')(w:World)(p:Nat)(_hp:p<=s.size)(hs:s.size<=1000000)(hf:2*(s.size-p)+1<=f+1)(hk5:5<=zAQ (atV s p:Nat))(hkv:zAQ (atV s p:Nat)=6)(h40:atV s (p+1)=40) :
  Calls prog 97 #[.string s,.int .i64 p] w (zAe (rt s (f+1) none p) w):=by
 have HA:=zAA (fun W (q:Nat)=>zDz W s q (by unfold maxLen;omega))
 have HK:=zAA (fun W=>zCX (atV s p:Nat) W)
 have hp1:=zCC (s:=s) (p:=p+1) (by omega)
 have hkr:=(zBq (atV s p:Nat)).2
 have HRN:=zAA (fun h8=>zGB (s:=s) (f:=f) (p:=p) (zAQ (atV s p:Nat)) rfl h8 h40)
 have HRO:=zAA (fun h8=>zEb (s:=s) (f:=f) (p:=p) (zAQ (atV s p:Nat)) rfl hk5 h8 h40)
 have HA1:=zAA (show ∀W,Calls prog 123 #[.string s,.int .i64 ((p:Int)+1)] W fun e w'=>e=.returned (.int .u8 40)∧W=w' from fun W=>by have h:=HA.out W (p+1);rw[h40]at h;rwa [show((p+1:Nat):Int)=(p:Int)+1 by omega]at h)
 rw[hkv]at HK HRN HRO
 clear hkv hk5 hkr
 generalize rt s (f+1) none p=R at *
 have e0:((6:Int)==0)=false:=by rw[beq_eq_false_iff_ne];omega
 have h4I:¬(6:Int)<=4:=by omega
 have HB:=zAA ((Blk.new w 77 zBG).alloc (.cells #[.int .i64 6,.int .u64 0,.slice none 0 0,.slice none 0 0] 77))
 have HM:=zAA (Blk.new (w.alloc (.cells zBG 77)) 77 #[.int .i64 6,.int .u64 0,.slice none 0 0,.slice none 0 0])
 simp only[World.size_alloc]at HM
 have HO:=zAA (((Only.refl [] w).alloc (.cells zBG 77)).alloc (.cells #[.int .i64 6,.int .u64 0,.slice none 0 0,.slice none 0 0] 77))
 have HT:=zAA hT
 have HFF:=zAA hf
 clear hT hf h40
 have HRR:=zAA (HRO.out (by first|decide|(rintro(h|h)<;>contradiction)))
 go_enter func97,ntmps97
 go_upto_if 46 with (first
  | (go_at_call 123;(with_reducible refine(HA1.out _).mono ?_);rintro e w1 ⟨rfl,rfl⟩)
  | (go_at_call 123;refine(HA.out _ _).mono ?_;rintro e w1 ⟨rfl,rfl⟩)
  | (go_at_call 122;refine(HK.out _).mono ?_;rintro e w1 ⟨rfl,rfl⟩))
 go_cut [1] (fun iv wr=>∃(n j:Nat),iv=.int .i64 (j:Nat)∧p+2<=j∧j<=s.size∧Hid (rst s f (6:Int) n j=R)∧Hid (Blk wr (w.heap.size+1) 77 #[.int .i64 (6:Int),.int .u64 (n:Nat),.slice none 0 0,.slice none 0 0])∧Hid (Blk wr w.heap.size 77 zBG)∧Hid (Only [] w wr))
 case first =>
  go_wp2_with fail
  go_meet
  exact⟨0,p+2,(by go_num),by omega,by omega,zAA HRR.out.symm,HM,HB,HO⟩
 case rest =>
  obtain⟨n,j,rfl,hj1,hj2,HST,HM1,HB1,HO1⟩:=hcut
  have HST:=zAA (HST.out.symm.trans (show rst s f 6 n j=rt s f (some (6,n,[])) j by unfold rst;rw[if_neg (by rintro⟨h,_⟩;exact absurd h (by decide))]))
  obtain⟨i0,hi,hz0,hz1,hz2⟩:=info_parts (show(prog.info? 9).map (fun i=>(i.zero,i.size,i.bytes))=some (some (.string ByteArray.empty),1,16)by kernel_rfl)
  clear HM HB HO
  go_wp2_with fail
  go_loopw [1] (fun iv wr2=>∃(j f1:Nat) (parts:List ByteArray) (A:Option Addr) (c:Nat),iv=.int .i64 (j:Nat)∧j<=s.size∧2*(s.size-j)+2<=f1∧f1<=f∧parts.length<=j∧Hid (R=rt s f1 (some ((6:Int),n,parts)) j)∧Hid (Blk wr2 (w.heap.size+1) 77 #[.int .i64 (6:Int),.int .u64 (n:Nat),.slice none 0 0,.slice A parts.length c])∧Hid (wr2.ownsRow w.heap.size 9 1 (.slice A parts.length c) parts.length (zAq parts))∧Hid (Blk wr2 w.heap.size 77 zBG)∧Hid (Only [] w wr2)) (fun iv _=>s.size-(intOf iv).toNat)
  case atStart=>exact⟨j,f,[],none,0,rfl,hj2,by have:=HFF.out;omega,Nat.le_refl _,by simp,HST,HM1,zAA ⟨by simp[zAq],.inl ⟨rfl,rfl⟩⟩,HB1,HO1⟩
  case round =>
   clear HM1 HB1 HO1 HST hj1 hj2
   obtain⟨j,f1,parts,A,c,rfl,hj,hf1,hff,hpl,HST,HM1,HOW,HB1,HO1⟩:=hrel
   obtain⟨f2,rfl⟩:∃f2,f1=f2+1:=⟨f1-1,by omega⟩
   have HC:=zAA (HT.out f2 (by omega) wr j hj hs (by omega))
   have hst:=HST.out
   rw[rt]at hst
   have hbd:=zJE s f2 none j
   cases hq:rt s f2 none j with
   | none =>
    rw[hq]at hst HC
    simp only at hst
    have HR:=zAA hst
    unfold zAe at HC
    simp only at HC
    clear hst hq hbd HST
    go_wp2_with (go_at_call 97;refine HC.out.mono ?_;rintro e w2 ⟨rfl,ho⟩;have HO1:=zAA ((HO1.out.trans ho).alloc (.cells #[.int .i64 0,.int .u64 0,.slice none 0 0,.slice none 0 0] 77));have HB1:=zAA ((HB1.out.only ho (by simp)).alloc (.cells #[.int .i64 0,.int .u64 0,.slice none 0 0,.slice none 0 0] 77));have z0:=HB1.out.cell 0;have z1:=HB1.out.cell 1;have z2:=HB1.out.cell 2;have z3:=HB1.out.cell 3;simp at z0 z1 z2 z3;have zf:=HB1.out.frozen;clear ho)
    refine bodyPost_ret (zAC rfl _ _ w.heap.size 77 _ (0,0) _ rfl (((((HB1.out.set_ 0 _).set_ 1 _).set_ 2 _).set_ 3 _)) underlying77 rfl (by kernel_rfl)) rfl ?_
    exact zAo HR.out (zAV HO1.out (.inr (Nat.le_refl _)))
   | some nq =>
    obtain⟨⟨k2,n2,l2,ps2⟩,q⟩:=nq
    rw[hq]at hst HC
    simp only at hst
    have hb2:=hbd _ _ hq
    unfold zAe at HC
    simp only at HC
    clear hbd hq HST
    go_upto_region 22 with (go_at_call 97;refine HC.out.mono ?_;rintro e w2 ⟨bv,pv,rfl,ho,hbb,hpp⟩;obtain⟨Ab,cb,rfl,_,_⟩:=(hbb [] (by simp)).formb;obtain⟨Ap,cp,rfl,_,_⟩:=(hpp [] (by simp)).form;have HO1:=zAA ((HO1.out.trans ho).alloc (.cells #[.int .i64 k2,.int .u64 (n2:Nat),.slice Ab l2.length cb,.slice Ap (zAq ps2).length cp] 77));have HB1:=zAA ((HB1.out.only ho (by simp)).alloc (.cells #[.int .i64 k2,.int .u64 (n2:Nat),.slice Ab l2.length cb,.slice Ap (zAq ps2).length cp] 77));have HM1:=zAA ((HM1.out.only ho (by simp)).alloc (.cells #[.int .i64 k2,.int .u64 (n2:Nat),.slice Ab l2.length cb,.slice Ap (zAq ps2).length cp] 77));have HOW:=zAA ((zAa HOW.out ho (by simp)).alloc (.cells #[.int .i64 k2,.int .u64 (n2:Nat),.slice Ab l2.length cb,.slice Ap (zAq ps2).length cp] 77));clear ho hbb hpp)
    generalize (w2.alloc (.cells #[.int .i64 k2,.int .u64 (n2:Nat),.slice Ab l2.length cb,.slice Ap (zAq ps2).length cp] 77))=wA at *
    have m3:=HM1.out.cell 3
    simp at m3
    have hqj:(j:Int)<=q:=by omega
    have hqs:(q:Int)<=s.size:=by omega
    have HSZ:=zAA HO1.out.size
    have HLM:=zAA HM1.out.lt
    have HRN:=zAA (zAi wA.drew 9 (.string (s.extract j q)) (wA.heap.size+1) (Nat.lt_succ_self _))
    have HOW2:=zAA (World.ownsRow.alloc (zAa HOW.out ((Only.refl [] wA).drew) (by simp)) (.cells #[.string (s.extract j q)] 9))
    have HM2:=zAA (HM1.out.drew.alloc (.cells #[.string (s.extract j q)] 9))
    have m3b:=(HM1.out.alloc (.cells #[.string (s.extract j q)] 9)).cell 3
    simp at m3b
    have HB2:=zAA (HB1.out.drew.alloc (.cells #[.string (s.extract j q)] 9))
    have HO2:=zAA (HO1.out.drew.alloc (.cells #[.string (s.extract j q)] 9))
    go_region_law (first
     | (refine zAt _ rfl (.tmp 104) (.tmp 109) 75 rfl w.heap.size 9 i0 (.string ByteArray.empty) 1 16 underlying75 hi hz0 hz1 hz2 rfl (by decide) _ parts.length _ rfl HOW2.out _ _ 1 1 [.string (s.extract j q)] rfl HRN.out (by simp[Value.oneCell']) (by unfold maxLen;omega) (by omega) (by have:=HSZ.out;simp;omega) ?_;intro v1 w3 hown1 hg1 _;rw[zCA]at hown1;obtain⟨A1,c1,rfl,_,_⟩:=zAh hown1;have HM3:=zAA (HM2.out.grown hg1 (zCZ HOW2.out HM2.out (by decide)));have HB3:=zAA (HB2.out.grown hg1 (zCZ HOW2.out HB2.out (by decide)));have HO3:=zAA (HO2.out.grown hg1 (fun jj hjj=>.inr (zAP HOW2.out hjj)));have HOW3:=zAA hown1;have y0:=HM3.out.cell 0;have y1:=HM3.out.cell 1;have y2:=HM3.out.cell 2;have y3:=HM3.out.cell 3;simp at y0 y1 y2 y3;have yf:=HM3.out.frozen;clear hown1 hg1))
    all_goals
     have HM4:=zAA (HM3.out.set_ 3 (.slice A1 (parts.length+1) c1))
     have HB4:=zAA (HB3.out.far (p:=⟨w.heap.size+1,3,none⟩) (by simp) (.slice A1 (parts.length+1) c1))
     have HO4:=zAA (HO3.out.setCell (p:=⟨w.heap.size+1,3,none⟩) (.inr (by simp)) (.slice A1 (parts.length+1) c1))
     have HOW4:=zAA (zCi HOW3.out HM3.out (by decide) 3 (.slice A1 (parts.length+1) c1))
     go_upto_region 23 with (fail)
     generalize w3.setCell ⟨w.heap.size+1,3,none⟩ (.slice A1 (parts.length+1) c1)=w4 at *
     have z0:=HB4.out.cell 0
     have z1:=HB4.out.cell 1
     have z2:=HB4.out.cell 2
     have z3:=HB4.out.cell 3
     simp at z0 z1 z2 z3
     have zf:=HB4.out.frozen
     have x0:=HM4.out.cell 0
     have x1:=HM4.out.cell 1
     have x2:=HM4.out.cell 2
     have x3:=HM4.out.cell 3
     simp at x0 x1 x2 x3
     have HAQ:=zAA (fun W=>HA.out W q)
     clear y0 y1 y2 y3 yf m3 m3b
     by_cases h41:atV s q=41
     ·rw[if_pos h41]at hst
      rw[h41]at HAQ
      have hqlt:=zCC (s:=s) (p:=q) (by omega)
      have HRG:=zAA (fun W=>zCY (6:Int) ((parts.length+1:Nat):Int) W)
      cases hrt:zBc (6:Int) ((parts.length+1:Nat):Int)with
      | false =>
       rw[if_neg (by rintro⟨h,_⟩;rw[hrt]at h;cases h)]at hst
       rw[hrt]at HRG
       have HR:=zAA hst
       clear hst hrt h41
       go_wp2_with (go_at_call 123;refine(HAQ.out _).mono ?_;rintro e w9 ⟨rfl,rfl⟩)
       go_quiet (exact zA9 (HRG.out _))
       go_wp2_with fail
       refine bodyPost_ret (zAC rfl _ _ w.heap.size 77 _ (0,0) _ rfl ((((((HB4.out.drewN _).set_ 0 _).set_ 1 _).set_ 2 _).set_ 3 _)) underlying77 rfl (by kernel_rfl)) rfl ?_
       exact zAo HR.out (zAV (HO4.out.drewN _) (.inr (Nat.le_refl _)))
      | true =>
       have h6:zBc 6 ((parts.length+1:Nat):Int)=decide (((parts.length+1:Nat):Int)=2):=rfl
       have hp1:parts.length=1:=by
        have h:=of_decide_eq_true (h6.symm.trans hrt)
        omega
       clear h6
       obtain⟨g3,rfl,hc0,hc1⟩:=zLv HOW4.out (by rw[List.length_append,List.length_singleton];omega)
       rw[hrt]at HRG
       obtain⟨a0,rfl⟩:∃a0,parts=[a0]:=List.length_eq_one_iff.1 hp1
       have HRG2:=zAA (show ∀W,Calls prog 127 #[.int .i64 6,.int .i64 2] W fun e w'=>e=.returned (.bool true)∧W=w' from HRG.out)
       have y3:w4.cell? ⟨w.heap.size+1,3,none⟩=some (.slice (some ⟨g3,0,none⟩) 2 c1):=x3
       have hL:([a0]++[s.extract j q]).length=[a0].length+1:=rfl
       have hd0:w4.cell? ⟨g3,0,none⟩=some (.string a0):=hc0
       have hd1:w4.cell? ⟨g3,1,none⟩=some (.string (s.extract j q)):=hc1
       clear hc0 hc1 x3 HRG hp1 h41
       rcases Bool.eq_false_or_eq_true (gtB a0 (s.extract j q))with hg|hg
       ·rw[if_neg (by rintro⟨_,h⟩;exact h ⟨trivial,hg⟩)]at hst
        have HR:=zAA hst
        unfold gtB at hg
        clear hst hrt hL
        go_wp2_with (go_at_call 123;refine(HAQ.out _).mono ?_;rintro e w9 ⟨rfl,rfl⟩)
        go_quiet (exact zA9 (HRG2.out _))
        go_wp2_with fail
        refine bodyPost_ret (zAC rfl _ _ w.heap.size 77 _ (0,0) _ rfl ((((((HB4.out.drewN _).set_ 0 _).set_ 1 _).set_ 2 _).set_ 3 _)) underlying77 rfl (by kernel_rfl)) rfl ?_
        exact zAo HR.out (zAV (HO4.out.drewN _) (.inr (Nat.le_refl _)))
       ·rw[if_pos ⟨hrt,(by rintro⟨_,h⟩;have h2:=hg.symm.trans h;cases h2)⟩]at hst
        have HR:=zAA hst
        have HL:=zAA hL
        unfold gtB at hg
        clear hst hrt hL
        go_wp2_with (go_at_call 123;refine(HAQ.out _).mono ?_;rintro e w9 ⟨rfl,rfl⟩)
        go_quiet (exact zA9 (HRG2.out _))
        go_wp2_with fail
        refine bodyPost_ret (zAC rfl _ _ w.heap.size 77 _ (0,0) _ rfl ((((((HB4.out.drewN _).set_ 0 _).set_ 1 _).set_ 2 _).set_ 3 _)) underlying77 rfl (by kernel_rfl)) rfl ?_
        exact zB7 HR.out (zAV (HO4.out.drewN _) (.inr (Nat.le_refl _))) (zDB (zAa HOW4.out ((Only.refl [] w4).drewN _) (by simp)) (HB4.out.drewN _) (by decide)) HL.out (by go_num)
     ·rw[if_neg h41]at hst
      have h41I:(((atV s q:Nat):Int)==41)=false:=by rw[beq_eq_false_iff_ne];omega
      by_cases h44:atV s q=44
      ·rw[if_neg (by rw[h44];simp)]at hst
       rw[h44]at HAQ
       have hqlt:=zCC (s:=s) (p:=q) (by omega)
       have HR:=zAA hst
       clear hst h41 h41I
       go_wp2_with (go_at_call 123;refine(HAQ.out _).mono ?_;rintro e w9 ⟨rfl,rfl⟩)
       go_roundw
       case rel=>exact⟨q+1,f2,parts++[s.extract j q],A1,c1,(by go_num),by omega,by omega,by omega,(by rw[List.length_append,List.length_singleton];omega),HR,(by rw[List.length_append,List.length_singleton];exact HM4),(by rw[List.length_append,List.length_singleton];exact HOW4),HB4,HO4⟩
       case measure=>simp[intOf];omega
      ·rw[if_pos h44]at hst
       have h44I:(((atV s q:Nat):Int) != 44)=true:=by rw[bne_iff_ne];omega
       have HR:=zAA hst
       clear hst h41
       go_wp2_with (go_at_call 123;refine(HAQ.out _).mono ?_;rintro e w9 ⟨rfl,rfl⟩)
       refine bodyPost_ret (zAC rfl _ _ w.heap.size 77 _ (0,0) _ rfl (((((HB4.out.set_ 0 _).set_ 1 _).set_ 2 _).set_ 3 _)) underlying77 rfl (by kernel_rfl)) rfl ?_
       exact zAo HR.out (zAV HO4.out (.inr (Nat.le_refl _)))
end
end Go.Proofs.YtfipdjlalfpbnaaGreatDoor
