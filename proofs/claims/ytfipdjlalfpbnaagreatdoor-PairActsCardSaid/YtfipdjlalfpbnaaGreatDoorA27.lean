/-
  Walks and plain words (texts Jd, Mk). No condition beyond those that each theorem states.
-/
import Derived.Test.YtfipdjlalfpbnaaGreatDoorA26
namespace Go.Proofs.YtfipdjlalfpbnaaGreatDoor
section
open Go.Proofs.Tryz
set_option maxHeartbeats 6400000
set_option maxRecDepth 100000
open Go.RowKit Go.Deep

theorem zC4{w W:World}{g:Nat}(h:Below w.heap.size w W)(hg:g<w.heap.size)(i:Nat):W.cell? ⟨g,i,none⟩=w.cell? ⟨g,i,none⟩:=h.cell (p:=⟨g,i,none⟩) hg
theorem zMY(a:ByteArray):a.data.toList.length=a.size:=rfl
theorem al_:∀(W:World) (n:Nat) (o:Obj),(W.drewN n).alloc o=(W.alloc o).drewN n:=fun _ _ _=>rfl

theorem zMD(n:Nat)(bv lv:Value)(b:List UInt8)(p q:ByteArray)(hsz:p.size+q.size<=900000)(w:World)(hv:Rd w [] lv (zAq [p,q])) :
  Calls prog 114 #[.int .u8 ((zCI 6).toNat:Nat),.int .i64 6,.int .u64 n,bv,lv] w (zBr (zA5 6 n b (zAZ 6 [p,q])) w):=by
 obtain⟨A,cap,rfl,hc1,hc2⟩:=hv.form
 unfold maxLen at hc2
 obtain⟨g,o,rfl,_,hcell⟩:=zEl hv (by simp)
 have hg:g<w.heap.size:=by have:=World.block_lt_of_cell? w _ (hcell 0 (by simp));simpa using this
 have HD0:=zAA (show w.cell? ⟨g,o,none⟩=some (.string p)from hcell 0 (by simp))
 have HD1:=zAA (show w.cell? ⟨g,o+1,none⟩=some (.string q)from hcell 1 (by simp))
 have HSZ:=zAA hsz
 have HG:=zAA hg
 have HB:=zAA (zFp w)
 have HC:=zAA (show Below w.heap.size w (w.alloc (.cells #[.pointer none,.slice none 0 0] 190))from zBE ((Only.refl [] w).alloc _) (Nat.le_refl _))
 have d0:=(zC4 HC.out HG.out o).trans HD0.out
 have d1:=(zC4 HC.out HG.out (o+1)).trans HD1.out
 have HNB:=zAA (show zAK 6=false by decide)
 have al:=al_
 rw[show(zAq [p,q]).length=2 from rfl]at hc1 ⊢
 clear hv hcell hsz hg
 rcases Bool.eq_false_or_eq_true (gtB p q)with hq|hq
 ·have hq2:=hq
  have HTX:=zAA (show zA5 6 n b (zAZ 6 [p,q])=[zCI 6]++[40]++q.data.toList++[44]++p.data.toList++[41]by rw[show zAZ 6 [p,q]=[q,p]by unfold zAZ;rw[if_pos (show zC1 6 [p,q]from⟨rfl,rfl,hq2⟩)];rfl,zFo 6 n b _ (by omega) (by intro h;cases h)];simp[zDK,HNB.out,zAI])
  unfold gtB at hq
  clear hq2
  go_enter func114,ntmps114
  go_wp2_with (first
   | (go_at_call 135;refine(zBu w.heap.size w.heap.size _ _ _ HB.out (by rw[zA7];have:=HSZ.out;simp only[List.length_append,List.length_cons,List.length_nil];omega) HC.out.size).mono ?_;rintro e w1 ⟨rfl,h1,hb1,hh1⟩;have HC:=zAA (HC.out.trans hb1);(first|(have HB:=zAA (zAk h1 (zA6 _ (zCI 6))))|(have HB:=zAA (zAk h1 (zA6 _ 40))));clear d0 d1;have d0:=(zC4 HC.out HG.out o).trans HD0.out;have d1:=(zC4 HC.out HG.out (o+1)).trans HD1.out;clear h1 hb1 hh1)
   | (go_at_call 110;refine(zAf _ _).mono ?_;rintro e w' ⟨rfl,rfl⟩;rw[HNB.out]))
  go_quiet (fail)
  go_wp2_with fail
  go_region
  go_wp2_with fail
  have HB:=zAA (zC3 HB.out (((Only.refl [] w1).alloc (.cells #[.string q,.string p] 9)).drewN (nq+1)))
  have HC:=zAA (zCc (HC.out.alloc (by have:=HC.out.size;omega) (.cells #[.string q,.string p] 9)) (nq+1))
  have HK:=zAA ((Blk.new w1 9 #[.string q,.string p]).drewN (nq+1))
  generalize (w1.alloc (.cells #[.string q,.string p] 9)).drewN (nq+1)=wq at *
  generalize w1.heap.size=G at *
  have HCE:=zAA (show ∀W,Held wq W->Below w.heap.size w W->W.cell? ⟨G,0,none⟩=some (.string q)∧W.cell? ⟨G,1,none⟩=some (.string p)from fun W hh _=>⟨(hh _ _ _ (by decide) (by decide) HK.out).cell 0,(hh _ _ _ (by decide) (by decide) HK.out).cell 1⟩)
  have HH:=zAA (zEo wq)
  clear d0 d1
  obtain⟨c0,c1⟩:=HCE.out _ HH.out HC.out
  refine wp_loop_rounds 3 ?_
  rw[rounds_succ]
  go_wp2_with (first
   | (go_at_call 137;refine(zB5 w.heap.size w.heap.size _ _ _ HB.out (by rw[zA7];have:=HSZ.out;simp only[List.length_append,List.length_cons,List.length_nil];omega) HC.out.size).mono ?_;rintro e w3 ⟨rfl,h1,hb1,hh1⟩;have HC:=zAA (HC.out.trans hb1);have HB:=zAA (zAk h1 (zCK _ _));have HH:=zAA (HH.out.trans hh1);clear c0 c1;obtain⟨c0,c1⟩:=HCE.out _ HH.out HC.out;clear h1 hb1 hh1))
  rw[rounds_succ]
  go_wp2_with (first
   | (go_at_call 135;refine(zBu w.heap.size w.heap.size _ _ _ HB.out (by rw[zA7];have:=HSZ.out;simp only[List.length_append,List.length_cons,List.length_nil,zMY];omega) HC.out.size).mono ?_;rintro e w1 ⟨rfl,h1,hb1,hh1⟩;have HC:=zAA (HC.out.trans hb1);(first|(have HB:=zAA (zAk h1 (zA6 _ 44))));have HH:=zAA (HH.out.trans hh1);clear c0 c1;obtain⟨c0,c1⟩:=HCE.out _ HH.out HC.out;clear h1 hb1 hh1)
   | (go_at_call 137;refine(zB5 w.heap.size w.heap.size _ _ _ HB.out (by rw[zA7];have:=HSZ.out;simp only[List.length_append,List.length_cons,List.length_nil,zMY];omega) HC.out.size).mono ?_;rintro e w3 ⟨rfl,h1,hb1,hh1⟩;have HC:=zAA (HC.out.trans hb1);have HB:=zAA (zAk h1 (zCK _ _));have HH:=zAA (HH.out.trans hh1);clear c0 c1;obtain⟨c0,c1⟩:=HCE.out _ HH.out HC.out;clear h1 hb1 hh1))
  rw[rounds_succ]
  go_wp2_with (first
   | (go_at_call 135;refine(zBu w.heap.size w.heap.size _ _ _ HB.out (by rw[zA7];have:=HSZ.out;simp only[List.length_append,List.length_cons,List.length_nil,zMY];omega) HC.out.size).mono ?_;rintro e w1 ⟨rfl,h1,hb1,hh1⟩;have HC:=zAA (HC.out.trans hb1);(first|(have HB:=zAA (zAk h1 (zA6 _ 41))));have HH:=zAA (HH.out.trans hh1);clear c0 c1;obtain⟨c0,c1⟩:=HCE.out _ HH.out HC.out;clear h1 hb1 hh1)
   | (go_at_call 136;refine(Tryz.Builder_String_any w.heap.size w.heap.size _ _ HB.out HC.out.size).mono ?_;rintro e w4 ⟨rfl,hb1⟩;have HC:=zAA (HC.out.trans hb1);clear hb1))
  go_ret
  exact zBj (by rw[HTX.out];simp) (zAb HC.out)
 ·have hq2:=hq
  have HTX:=zAA (show zA5 6 n b (zAZ 6 [p,q])=[zCI 6]++[40]++p.data.toList++[44]++q.data.toList++[41]by rw[show zAZ 6 [p,q]=[p,q]by unfold zAZ;rw[if_neg (show ¬zC1 6 [p,q]by rintro⟨_,_,h⟩;rw[show gtB ([p,q].getD 0 ByteArray.empty) ([p,q].getD 1 ByteArray.empty)=gtB p q from rfl,hq2]at h;cases h)],zFo 6 n b _ (by omega) (by intro h;cases h)];simp[zDK,HNB.out,zAI])
  unfold gtB at hq
  clear hq2
  go_enter func114,ntmps114
  go_wp2_with (first
   | (go_at_call 135;refine(zBu w.heap.size w.heap.size _ _ _ HB.out (by rw[zA7];have:=HSZ.out;simp only[List.length_append,List.length_cons,List.length_nil];omega) HC.out.size).mono ?_;rintro e w1 ⟨rfl,h1,hb1,hh1⟩;have HC:=zAA (HC.out.trans hb1);(first|(have HB:=zAA (zAk h1 (zA6 _ (zCI 6))))|(have HB:=zAA (zAk h1 (zA6 _ 40))));clear d0 d1;have d0:=(zC4 HC.out HG.out o).trans HD0.out;have d1:=(zC4 HC.out HG.out (o+1)).trans HD1.out;clear h1 hb1 hh1)
   | (go_at_call 110;refine(zAf _ _).mono ?_;rintro e w' ⟨rfl,rfl⟩;rw[HNB.out]))
  go_quiet (fail)
  go_wp2_with fail
  have HB:=zAA (zC3 HB.out ((Only.refl [] w1).drewN nq))
  have HC:=zAA (zCc HC.out nq)
  generalize w1.drewN nq=wq at *
  have HCE:=zAA (show ∀W,Held wq W->Below w.heap.size w W->W.cell? ⟨g,o,none⟩=some (.string p)∧W.cell? ⟨g,o+1,none⟩=some (.string q)from fun W _ hb=>⟨(zC4 hb HG.out o).trans HD0.out,(zC4 hb HG.out (o+1)).trans HD1.out⟩)
  have HH:=zAA (zEo wq)
  clear d0 d1
  obtain⟨c0,c1⟩:=HCE.out _ HH.out HC.out
  refine wp_loop_rounds 3 ?_
  rw[rounds_succ]
  go_wp2_with (first
   | (go_at_call 137;refine(zB5 w.heap.size w.heap.size _ _ _ HB.out (by rw[zA7];have:=HSZ.out;simp only[List.length_append,List.length_cons,List.length_nil];omega) HC.out.size).mono ?_;rintro e w3 ⟨rfl,h1,hb1,hh1⟩;have HC:=zAA (HC.out.trans hb1);have HB:=zAA (zAk h1 (zCK _ _));have HH:=zAA (HH.out.trans hh1);clear c0 c1;obtain⟨c0,c1⟩:=HCE.out _ HH.out HC.out;clear h1 hb1 hh1))
  rw[rounds_succ]
  go_wp2_with (first
   | (go_at_call 135;refine(zBu w.heap.size w.heap.size _ _ _ HB.out (by rw[zA7];have:=HSZ.out;simp only[List.length_append,List.length_cons,List.length_nil,zMY];omega) HC.out.size).mono ?_;rintro e w1 ⟨rfl,h1,hb1,hh1⟩;have HC:=zAA (HC.out.trans hb1);(first|(have HB:=zAA (zAk h1 (zA6 _ 44))));have HH:=zAA (HH.out.trans hh1);clear c0 c1;obtain⟨c0,c1⟩:=HCE.out _ HH.out HC.out;clear h1 hb1 hh1)
   | (go_at_call 137;refine(zB5 w.heap.size w.heap.size _ _ _ HB.out (by rw[zA7];have:=HSZ.out;simp only[List.length_append,List.length_cons,List.length_nil,zMY];omega) HC.out.size).mono ?_;rintro e w3 ⟨rfl,h1,hb1,hh1⟩;have HC:=zAA (HC.out.trans hb1);have HB:=zAA (zAk h1 (zCK _ _));have HH:=zAA (HH.out.trans hh1);clear c0 c1;obtain⟨c0,c1⟩:=HCE.out _ HH.out HC.out;clear h1 hb1 hh1))
  rw[rounds_succ]
  go_wp2_with (first
   | (go_at_call 135;refine(zBu w.heap.size w.heap.size _ _ _ HB.out (by rw[zA7];have:=HSZ.out;simp only[List.length_append,List.length_cons,List.length_nil,zMY];omega) HC.out.size).mono ?_;rintro e w1 ⟨rfl,h1,hb1,hh1⟩;have HC:=zAA (HC.out.trans hb1);(first|(have HB:=zAA (zAk h1 (zA6 _ 41))));have HH:=zAA (HH.out.trans hh1);clear c0 c1;obtain⟨c0,c1⟩:=HCE.out _ HH.out HC.out;clear h1 hb1 hh1)
   | (go_at_call 136;refine(Tryz.Builder_String_any w.heap.size w.heap.size _ _ HB.out HC.out.size).mono ?_;rintro e w4 ⟨rfl,hb1⟩;have HC:=zAA (HC.out.trans hb1);clear hb1))
  go_ret
  exact zBj (by rw[HTX.out];simp) (zAb HC.out)
end
section
open Go.Proofs.Tryz
set_option maxHeartbeats 12800000
set_option maxRecDepth 100000
open Go.RowKit Go.Deep

def zBS(r:ByteArray)(w:World)(e:Ending)(w':World):Prop:=e=.returned (.string r)∧Only [] w w'
theorem zAN{r s:ByteArray}{w w':World}(h:r=s)(ho:Only [] w w'):zBS r w (.returned (.string s)) w':=by subst h;exact⟨rfl,ho⟩
theorem zK8{k:Int}(h5:5<=k){l:List ByteArray}(hf:zBF k l.length=true)(hn:zAK k=true):l≠[]:=by
 rintro rfl
 have h:k=8∨k=10:=by
  simp only[zAK,Bool.or_eq_true,beq_iff_eq]at hn
  omega
 rcases h with rfl|rfl<;>simp[zBF,zDV,zEt]at hf
theorem zFs{l:List ByteArray}(hf:zBF 6 l.length=true):∃p q,l=[p,q]:=by
 have hl:l.length=2:=by
  simp only[zBF,zDV,zEt]at hf
  simp at hf
  omega
 match l,hl with
 | [a,b],_=>exact⟨a,b,rfl⟩

theorem zK9(k:Int)(hr:1<=k∧k<=11)(n:Nat)(hn:n<18446744073709551616)(bv lv:Value)(b:List UInt8)(l:List ByteArray)(hf:zBF k l.length=true)(hs:zCr l<=65536)(h4:k=4->b.length<=65536)(w:World)
  (hb:Rd w [] bv (zBR .u8 (zBo b))) (hv:Rd w [] lv (zAq l)) (htab:Tab w) :
  Calls prog 114 #[.int .u8 ((zCI k).toNat:Nat),.int .i64 k,.int .u64 n,bv,lv] w (zBr (zA5 k n b (zAZ k l)) w):=by
 have hj:=zJn l
 by_cases hk:k<=4
 ·rw[zBH (by omega)]
  exact zJl k hr.1 hk n hn bv lv b l w (fun h=>⟨by have:=h4 h;omega,hb⟩) htab
 ·by_cases h6:k=6
  ·subst h6
   obtain⟨p,q,rfl⟩:=zFs hf
   simp only[zCr]at hs
   exact zMD n bv lv b p q (by omega) w hv
  ·rw[zBH h6]
   exact zK4 k (by omega) hr.2 h6 n hn bv lv b l (zK8 (by omega) hf) (by omega) w hv htab

theorem zDI(k:Int)(hk:(Lit.int .i64 k).wf=true)(n:Nat)(hn:n<18446744073709551616)(bv lv:Value)(b:List UInt8)(l:List ByteArray)(hsz:∀p∈l,p.size<=maxLen)(w:World)
  (hb:Rd w [] bv (zBR .u8 (zBo b))) (hv:Rd w [] lv (zAq l)) (htab:Tab w) :
  Calls prog 66 #[.int .i64 k,.int .u64 n,bv,lv] w (zBS (zAS k n b l) w):=by
 obtain⟨A,cap,rfl,hc1,hc2⟩:=hv.form
 obtain⟨A',cap',rfl,hc1',hc2'⟩:=hb.formb
 unfold maxLen at hc2 hc2' hsz
 rw[zBN]at hv hc1 ⊢
 by_cases hr:1<=k∧k<=11
 case neg =>
  have HM:=zAA (zGU (n:=n) (b:=b) (l:=l) hr)
  have e0:(((zCI k).toNat:Nat):Int)=0:=by rw[zK5 hr];rfl
  have HLT:=zAA (show ∀W,Calls prog 111 #[.int .i64 k] W fun e w'=>e=.returned (.int .u8 0)∧Only [] W w' from fun W=>by have h:=zGR k hk W;rw[e0]at h;exact h)
  clear hb hv htab hk hr e0 hsz hn
  go_enter func66,ntmps66
  go_wp2_with (first|(go_at_call 111;refine(HLT.out _).mono ?_;rintro e w1 ⟨rfl,ho⟩;have HC:=zAA ho;clear ho))
  go_ret
  exact zAN HM.out HC.out
 have HR:=zAA hr
 have hlp:=zMB hr
 have HLT:=zAA (zGR k hk)
 have HJ:=zAA (fun hf hs h4 W (ho:Only [] w W)=>zK9 k hr n hn _ _ b l hf hs h4 W (hb.only ho (by simp)) (hv.only ho (by simp)) (htab.only ho (by simp)))
 unfold zBr at HJ
 obtain⟨c,hcd⟩:∃c:Int,c=((zCI k).toNat:Nat):=⟨_,rfl⟩
 have hc0:(c==0)=false:=by rw[beq_eq_false_iff_ne,hcd];exact hlp
 rw[<-hcd]at HLT HJ
 obtain⟨m,hm⟩:∃m,m=l.length:=⟨_,rfl⟩
 have HM:=zAA hm
 rw[<-hm]at hv hc1 HJ ⊢
 have HV:=zAA hv
 have HSZ:=zAA hsz
 have hkw:=hk
 clear hb hv htab hr hk hsz hn hlp hcd hm
 by_cases ha:zAK k=true∧zAW k n=false
 ·obtain⟨hnb,hal⟩:=ha
  have HMK:=zAA (zIS (b:=b) (l:=l) hnb hal)
  have HNB:=zAA hnb
  have HAL:=zAA hal
  clear hnb hal
  go_enter func66,ntmps66
  go_wp2_with (first|(go_at_call 111;refine(HLT.out _).mono ?_;rintro e w1 ⟨rfl,ho⟩;have HC:=zAA ho;clear ho)|(go_at_call 110;refine(zAf _ _).mono ?_;rintro e w2 ⟨rfl,rfl⟩;rw[HNB.out])|(go_at_call 112;refine(zB9 _ _ _).mono ?_;rintro e w2 ⟨rfl,rfl⟩;rw[HAL.out]))
  go_ret
  exact zAN HMK.out HC.out
 have HALW:=zAA (show zAK k=true->zAW k n=true by
  intro h
  cases h2:zAW k n with
  | true=>rfl
  | false=>exact absurd ⟨h,h2⟩ ha)
 clear ha
 cases hft:zBF k m with
 | false =>
  have HMK:=zAA (zJo (n:=n) (b:=b) (l:=l) (k:=k) (by rw[<-HM.out];exact hft))
  have HFT:=zAA hft
  cases hnb:zAK k with
  | true =>
   have HNB:=zAA hnb
   have HAL:=zAA (HALW.out hnb)
   clear hnb hft
   go_enter func66,ntmps66
   go_wp2_with (first|(go_at_call 111;refine(HLT.out _).mono ?_;rintro e w1 ⟨rfl,ho⟩;have HC:=zAA ho;clear ho)|(go_at_call 110;refine(zAf _ _).mono ?_;rintro e w2 ⟨rfl,rfl⟩;rw[HNB.out])|(go_at_call 112;refine(zB9 _ _ _).mono ?_;rintro e w2 ⟨rfl,rfl⟩;rw[HAL.out])|(go_at_call 113;refine(zDA _ _ _).mono ?_;rintro e w2 ⟨rfl,rfl⟩;rw[HFT.out]))
   go_ret
   exact zAN HMK.out HC.out
  | false =>
   have HNB:=zAA hnb
   clear hnb hft
   go_enter func66,ntmps66
   go_wp2_with (first|(go_at_call 111;refine(HLT.out _).mono ?_;rintro e w1 ⟨rfl,ho⟩;have HC:=zAA ho;clear ho)|(go_at_call 110;refine(zAf _ _).mono ?_;rintro e w2 ⟨rfl,rfl⟩;rw[HNB.out])|(go_at_call 113;refine(zDA _ _ _).mono ?_;rintro e w2 ⟨rfl,rfl⟩;rw[HFT.out]))
   go_ret
   exact zAN HMK.out HC.out
 | true =>
  have HFT:=zAA hft
  clear hft
  by_cases hbg:∃i,i<l.length∧65536<(l.getD i ByteArray.empty).size
  ·obtain⟨i0,hi0,hbg⟩:=hbg
   have hz0:zAg (l.getD i0 ByteArray.empty)=0:=by rw[zEn];unfold zAE;rw[if_pos hbg];rfl
   have HMK:=zAA (zGV (k:=k) (n:=n) (b:=b) hi0 hz0)
   have HI0:=zAA (show i0<m by rw[HM.out];exact hi0)
   have HZ0:=zAA hz0
   have hk4:(k==4)=false:=by
    rw[beq_eq_false_iff_ne]
    intro e
    have h:=(zJV (k:=k) (by omega) (by omega) l).1 (by rw[<-HM.out];exact HFT.out)
    rw[h]at hi0
    exact absurd hi0 (Nat.not_lt_zero _)
   clear hz0 hi0 hbg
   cases hnb:zAK k
   all_goals
    have HNB:=zAA hnb
    first|(have HAL:=zAA (HALW.out hnb))|skip
    clear hnb
    go_enter func66,ntmps66
    go_wp2_with (first|(go_at_call 111;refine(HLT.out _).mono ?_;rintro e w1 ⟨rfl,ho⟩;have HC:=zAA ho;clear ho)|(go_at_call 110;refine(zAf _ _).mono ?_;rintro e w2 ⟨rfl,rfl⟩;rw[HNB.out])|(go_at_call 112;refine(zB9 _ _ _).mono ?_;rintro e w2 ⟨rfl,rfl⟩;rw[HAL.out])|(go_at_call 113;refine(zDA _ _ _).mono ?_;rintro e w2 ⟨rfl,rfl⟩;rw[HFT.out]))
    go_loopw [39,10] (fun i s wr=>∃(j:Nat) (x:Int),j<=m∧i=.int .i64 j∧s=.int .i64 x∧Hid (Only [] w wr)) (fun i _ _=>m-(intOf i).toNat)
    case atStart=>exact⟨0,0,Nat.zero_le _,rfl,rfl,HC⟩
    case round =>
     clear HC
     obtain⟨j,x,hj,rfl,rfl,HC⟩:=hrel
     by_cases hlt:j<m
     ·have hltI:(j:Int)<m:=by omega
      have hjl:j<l.length:=by rw[<-HM.out];exact hlt
      obtain⟨g,o,rfl,_,hg,hcell⟩:=(HV.out.only HC.out (by simp)).at_.2.2.2 j (.string (l.getD j ByteArray.empty)) (by simp[zAq,List.getElem?_eq_getElem hjl])
      generalize l.getD j ByteArray.empty=part at *
      clear hjl
      go_wp2_with fail
      ·go_ret
       exact zAN HMK.out HC.out
      ·go_roundw
       case rel=>exact⟨j+1,_,by omega,by go_num,rfl,HC⟩
       case measure=>simp[intOf];omega
     ·have hge:¬(j:Int)<m:=by omega
      clear hlt hj
      go_wp2_with fail
      go_loopw [60] (fun i wr=>∃j:Nat,j<=m∧i=.int .i64 j∧Hid (∀i,i<j->zAg (l.getD i ByteArray.empty)≠0)∧Hid (Only [] w wr)) (fun i _=>m-(intOf i).toNat)
      case atStart=>exact⟨0,Nat.zero_le _,rfl,zAA (fun i h=>absurd h (Nat.not_lt_zero i)),HC⟩
      case round =>
       clear HC
       obtain⟨j,hj,rfl,HK,HC⟩:=hrel
       by_cases hlt:j<m
       ·have hltI:(j:Int)<m:=by omega
        have hjl:j<l.length:=by rw[<-HM.out];exact hlt
        obtain⟨g,o,rfl,_,hg,hcell⟩:=(HV.out.only HC.out (by simp)).at_.2.2.2 j (.string (l.getD j ByteArray.empty)) (by simp[zAq,List.getElem?_eq_getElem hjl])
        have HKD:=zAA (fun W=>zBi W (l.getD j ByteArray.empty) (by have:=HSZ.out (l.getD j ByteArray.empty) (by rw[List.getD_eq_getElem?_getD,List.getElem?_eq_getElem hjl];exact List.getElem_mem hjl);unfold maxLen;omega))
        unfold zB3 at HKD
        by_cases hz:zAg (l.getD j ByteArray.empty)=0
        ·rw[hz]at HKD
         generalize l.getD j ByteArray.empty=part at *
         clear hz hjl
         go_wp2_with (go_at_call 51;refine(HKD.out _).mono ?_;rintro e w5 ⟨rfl,ho⟩;have HC:=zAA (HC.out.trans ho);clear ho)
         go_ret
         exact zAN HMK.out HC.out
        ·have HZ:=zAA (show ∀i,i<j+1->zAg (l.getD i ByteArray.empty)≠0 from fun i hi=>(Nat.lt_or_eq_of_le (Nat.le_of_lt_succ hi)).elim (HK.out i) (fun h=>by rw[h];exact hz))
         have hzb:(zAg (l.getD j ByteArray.empty)==0)=false:=by rw[beq_eq_false_iff_ne];exact hz
         generalize l.getD j ByteArray.empty=part at *
         generalize zAg part=kp at *
         clear hz hjl
         go_wp2_with (go_at_call 51;refine(HKD.out _).mono ?_;rintro e w5 ⟨rfl,ho⟩;have HC:=zAA (HC.out.trans ho);clear ho)
         go_roundw
         case rel=>exact⟨j+1,by omega,by go_num,HZ,HC⟩
         case measure=>simp[intOf];omega
       ·exact absurd HZ0.out (HK.out i0 (by have:=HI0.out;omega))
  have HSM:=zAA (show ∀i,i<l.length->(l.getD i ByteArray.empty).size<=65536 from fun i hi=>by apply Decidable.byContradiction;intro h;exact hbg ⟨i,hi,by omega⟩)
  clear hbg
  cases hnb:zAK k
  all_goals
   have HNB:=zAA hnb
   first|(have HAL:=zAA (HALW.out hnb))|skip
   clear hnb
   go_enter func66,ntmps66
   go_wp2_with (first|(go_at_call 111;refine(HLT.out _).mono ?_;rintro e w1 ⟨rfl,ho⟩;have HC:=zAA ho;clear ho)|(go_at_call 110;refine(zAf _ _).mono ?_;rintro e w2 ⟨rfl,rfl⟩;rw[HNB.out])|(go_at_call 112;refine(zB9 _ _ _).mono ?_;rintro e w2 ⟨rfl,rfl⟩;rw[HAL.out])|(go_at_call 113;refine(zDA _ _ _).mono ?_;rintro e w2 ⟨rfl,rfl⟩;rw[HFT.out]))
   go_loopw [39,10] (fun i s wr=>∃j:Nat,j<=m∧i=.int .i64 j∧s=.int .i64 (zCr (l.take j):Nat)∧zCr (l.take j)<=65536∧Hid (Only [] w wr)) (fun i _ _=>m-(intOf i).toNat)
   case atStart=>exact⟨0,Nat.zero_le _,rfl,rfl,Nat.zero_le _,HC⟩
   case round =>
    clear HC
    obtain⟨j,hj,rfl,rfl,hsum,HC⟩:=hrel
    by_cases hlt:j<m
    ·have hltI:(j:Int)<m:=by omega
     have hjl:j<l.length:=by rw[<-HM.out];exact hlt
     have HJS:=zAA (zGS l j hjl)
     obtain⟨g,o,rfl,_,hg,hcell⟩:=(HV.out.only HC.out (by simp)).at_.2.2.2 j (.string (l.getD j ByteArray.empty)) (by simp[zAq,List.getElem?_eq_getElem hjl])
     have hps:=HSM.out j hjl
     obtain⟨u,hu⟩:∃u,u=zCr (l.take j):=⟨_,rfl⟩
     have HU:=zAA hu
     rw[<-hu]at hsum ⊢
     clear hu
     generalize l.getD j ByteArray.empty=part at *
     by_cases hbig:65536<u+(part.size+1)
     ·have hbigI:(65536:Int)<(u:Int)+((part.size:Int)+1):=by omega
      have HMK:=zAA (zK7 (k:=k) (n:=n) (b:=b) (l:=l) (by have:=zGT l (j+1);have:=HJS.out;have:=HU.out;omega))
      clear hbig hjl
      go_wp2_with fail
      go_ret
      exact zAN HMK.out HC.out
     ·have hbigI:¬(65536:Int)<(u:Int)+((part.size:Int)+1):=by omega
      clear hbig hjl
      have hle:u+(part.size+1)<=65536:=by omega
      go_wp2_with fail
      go_roundw
      case rel=>exact⟨j+1,by omega,by go_num,by rw[HJS.out,<-HU.out];go_num,by rw[HJS.out,<-HU.out];exact hle,HC⟩
      case measure=>simp[intOf];omega
    ·have hge:¬(j:Int)<m:=by omega
     have HSUM:=zAA (show zCr l<=65536 by have h:=hsum;rw[List.take_of_length_le (by have:=HM.out;omega)]at h;exact h)
     clear hlt hj hsum
     by_cases hd:k=4∧65536<b.length
     ·obtain⟨rfl,hd⟩:=hd
      have HMK:=zAA (zJp (n:=n) (l:=l) (rfl:(4:Int)=4) hd)
      have hdI:(65536:Int)<b.length:=by omega
      clear hd
      go_wp2_with fail
      go_ret
      exact zAN HMK.out HC.out
     have HD:=zAA (show k=4->b.length<=65536 from fun h=>by apply Decidable.byContradiction;intro h2;exact hd ⟨h,by omega⟩)
     have hcut:((k==4)=true∧¬(65536:Int)<b.length)∨(k==4)=false:=by
      by_cases h:k=4
      ·exact .inl ⟨by rw[beq_iff_eq];exact h,by have:=HD.out h;omega⟩
      ·exact .inr (by rw[beq_eq_false_iff_ne];exact h)
     clear hd
     rcases hcut with ⟨hk4,hbl⟩|hk4
     all_goals
      go_wp2_with fail
      go_loopw [60] (fun i wr=>∃j:Nat,j<=m∧i=.int .i64 j∧Hid (∀i,i<j->zAg (l.getD i ByteArray.empty)≠0)∧Hid (Only [] w wr)) (fun i _=>m-(intOf i).toNat)
      case atStart=>exact⟨0,Nat.zero_le _,rfl,zAA (fun i h=>absurd h (Nat.not_lt_zero i)),HC⟩
      case round =>
       clear HC
       obtain⟨j,hj,rfl,HK,HC⟩:=hrel
       by_cases hlt:j<m
       ·have hltI:(j:Int)<m:=by omega
        have hjl:j<l.length:=by rw[<-HM.out];exact hlt
        obtain⟨g,o,rfl,_,hg,hcell⟩:=(HV.out.only HC.out (by simp)).at_.2.2.2 j (.string (l.getD j ByteArray.empty)) (by simp[zAq,List.getElem?_eq_getElem hjl])
        have HKD:=zAA (fun W=>zBi W (l.getD j ByteArray.empty) (by unfold maxLen;have:=zMC l j hjl;have:=HSUM.out;omega))
        unfold zB3 at HKD
        by_cases hz:zAg (l.getD j ByteArray.empty)=0
        ·have HMK:=zAA (zGV (k:=k) (n:=n) (b:=b) hjl hz)
         rw[hz]at HKD
         generalize l.getD j ByteArray.empty=part at *
         clear hz hjl
         go_wp2_with (go_at_call 51;refine(HKD.out _).mono ?_;rintro e w5 ⟨rfl,ho⟩;have HC:=zAA (HC.out.trans ho);clear ho)
         go_ret
         exact zAN HMK.out HC.out
        ·have HZ:=zAA (show ∀i,i<j+1->zAg (l.getD i ByteArray.empty)≠0 from fun i hi=>(Nat.lt_or_eq_of_le (Nat.le_of_lt_succ hi)).elim (HK.out i) (fun h=>by rw[h];exact hz))
         have hzb:(zAg (l.getD j ByteArray.empty)==0)=false:=by rw[beq_eq_false_iff_ne];exact hz
         generalize hpt:l.getD j ByteArray.empty=part at *
         generalize zAg part=kp at *
         have HPT:=zAA hpt
         clear hz hjl hpt
         go_wp2_with (go_at_call 51;refine(HKD.out _).mono ?_;rintro e w5 ⟨rfl,ho⟩;have HC:=zAA (HC.out.trans ho);clear ho)
         go_roundw
         case rel=>exact⟨j+1,by omega,by go_num,HZ,HC⟩
         case measure=>simp[intOf];omega
       ·have hge:¬(j:Int)<m:=by omega
        have HKA:=zAA (show ∀i,i<l.length->zAg (l.getD i ByteArray.empty)≠0 from fun i hi=>HK.out i (by have:=HM.out;omega))
        have HJ2:=zAA (fun W ho=>HJ.out HFT.out HSUM.out HD.out W ho)
        by_cases hlong:65536<(zA5 k n b (zAZ k l)).length
        ·have HMK:=zAA (zJq hlong)
         have hlongI:(65536:Int)<(⟨(zA5 k n b (zAZ k l)).toArray⟩:ByteArray).size:=by show(65536:Int)<((zA5 k n b (zAZ k l)).toArray.size:Nat);rw[List.size_toArray];omega
         generalize (⟨(zA5 k n b (zAZ k l)).toArray⟩:ByteArray)=txt at *
         clear hlong
         go_wp2_with (go_at_call 114;refine(HJ2.out _ HC.out).mono ?_;rintro e w5 ⟨rfl,ho⟩;have HC:=zAA (HC.out.trans ho);clear ho)
         go_ret
         exact zAN HMK.out HC.out
        ·have HMK:=zAA (zG1 (b:=b) HR.out HALW.out (by rw[<-HM.out];exact HFT.out) HKA.out (by omega))
         have hlongI:¬(65536:Int)<(⟨(zA5 k n b (zAZ k l)).toArray⟩:ByteArray).size:=by show ¬(65536:Int)<((zA5 k n b (zAZ k l)).toArray.size:Nat);rw[List.size_toArray];omega
         unfold zAD at HMK
         generalize (⟨(zA5 k n b (zAZ k l)).toArray⟩:ByteArray)=txt at *
         clear hlong
         go_wp2_with (go_at_call 114;refine(HJ2.out _ HC.out).mono ?_;rintro e w5 ⟨rfl,ho⟩;have HC:=zAA (HC.out.trans ho);clear ho)
         go_ret
         exact zAN HMK.out HC.out
end
end Go.Proofs.YtfipdjlalfpbnaaGreatDoor
