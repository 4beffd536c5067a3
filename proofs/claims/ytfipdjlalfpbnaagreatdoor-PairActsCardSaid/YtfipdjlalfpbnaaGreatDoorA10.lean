/-
  Walks and plain words (texts Rt4, Rt5, Rt6). No condition beyond those that each theorem states.
-/
import Derived.Test.YtfipdjlalfpbnaaGreatDoorA09
namespace Go.Proofs.YtfipdjlalfpbnaaGreatDoor
section
open Go.Proofs.Tryz
set_option maxHeartbeats 6400000
set_option maxRecDepth 100000
open Go.RowKit Go.Deep

abbrev zBG:Array Value:=#[.int .i64 0,.int .u64 0,.slice none 0 0,.slice none 0 0]

theorem zGC{w w2:World}{v:Value}{xs:List Value}{x y z u:Value}(h:∀N:List Nat,(∀x∈N,x<(w.alloc (.cells zBG 77)).heap.size)->Rd w2 N v xs) :
  ∀N:List Nat,(∀x∈N,x<w.heap.size)->Rd ((((w2.setCell ⟨w.heap.size,0,none⟩ x).setCell ⟨w.heap.size,1,none⟩ y).setCell ⟨w.heap.size,2,none⟩ z).setCell ⟨w.heap.size,3,none⟩ u) N v xs:=by
 intro N hN
 exact((h (w.heap.size::N) (fun x hx=>by
  rcases List.mem_cons.1 hx with rfl|hx
  ·simp
  ·have:=hN x hx;simp;omega)).only (zAV (Only.refl [w.heap.size] w2) (.inl (by simp))) (fun x hx=>by rw[List.mem_singleton.1 hx];exact List.mem_cons_self)).less (fun x hx=>List.mem_cons_of_mem _ hx)

theorem zID(s:ByteArray)(f:Nat)(w:World)(p:Nat)(_hp:p<=s.size)(hs:s.size<=1000000)(hk:zAQ (atV s p:Nat)<=4∨atV s (p+1)≠40) :
  Calls prog 97 #[.string s,.int .i64 p] w (zAe (rt s (f+1) none p) w):=by
 have HA:=zAA (fun W (q:Nat)=>zDz W s q (by unfold maxLen;omega))
 have HB:=zAA (Blk.new w 77 zBG)
 have HO:=zAA ((Only.refl [] w).alloc (.cells zBG 77))
 have HKA:=zAA (show zAQ (atV s p:Nat)≠0->p<s.size from zGq)
 have HKA:=zAA (show zAQ (atV s p:Nat)≠0->p<s.size from zGq)
 have HK:=zAA (fun W=>zCX (atV s p:Nat) W)
 by_cases h0:zAQ (atV s p:Nat)=0
 ·have HR:=zAA (zMt (f:=f) h0)
  rw[h0]at HK
  clear h0 hk
  go_enter func97,ntmps97
  go_wp2_with (first
   | (go_at_call 123;refine(HA.out _ _).mono ?_;rintro e w1 ⟨rfl,rfl⟩)
   | (go_at_call 122;refine(HK.out _).mono ?_;rintro e w1 ⟨rfl,rfl⟩))
  refine bodyPost_ret (zAC rfl _ _ w.heap.size 77 _ (0,0) _ rfl HB.out underlying77 rfl (by kernel_rfl)) rfl ?_
  exact zAo HR.out HO.out
 have hps:=HKA.out h0
 by_cases h4:zAQ (atV s p:Nat)<=4
 ·have hrt:=zLt (f:=f) h0 h4
  have hk1:zAQ (atV s p:Nat)=1∨zAQ (atV s p:Nat)=2∨zAQ (atV s p:Nat)=3∨zAQ (atV s p:Nat)=4:=by
   have:=zBq (atV s p:Nat)
   omega
  have HLF:Hid (∀W,Calls prog 124 #[.string s,.int .i64 ((p:Int)+1),.int .i64 (zAQ (atV s p:Nat))] W (zAe (rt s (f+1) none p) W)):=zAA fun W=>by
   rw[hrt,show((p:Int)+1)=((p+1:Nat):Int)by omega]
   rcases hk1 with h|h|h|h
   ·rw[h];exact zKi W s (p+1)
   ·rw[h];exact zHV W s (p+1) 2 (.inl rfl) (by omega) hs
   ·rw[h];exact zHV W s (p+1) 3 (.inr rfl) (by omega) hs
   ·rw[h];exact zJD W s (p+1) (by omega) hs
  clear hrt hk
  generalize zAQ (atV s p:Nat)=k at *
  generalize rt s (f+1) none p=R at *
  have e0:(k==0)=false:=by rw[beq_eq_false_iff_ne];exact h0
  clear h0 hk1
  cases R with
  | none =>
   unfold zAe at HLF
   go_enter func97,ntmps97
   go_wp2_with (first
    | (go_at_call 123;refine(HA.out _ _).mono ?_;rintro e w1 ⟨rfl,rfl⟩)
    | (go_at_call 122;refine(HK.out _).mono ?_;rintro e w1 ⟨rfl,rfl⟩)
    | (go_at_call 124;refine(HLF.out _).mono ?_;rintro e w2 ⟨rfl,ho⟩;have HO2:=zAA (HO.out.trans ho);have HB2:=zAA (HB.out.only ho (by simp));have c0:=HB2.out.cell 0;have c1:=HB2.out.cell 1;have c2:=HB2.out.cell 2;have c3:=HB2.out.cell 3;simp at c0 c1 c2 c3;have f0:=HB2.out.frozen;clear ho))
   refine bodyPost_ret (zAC rfl _ _ w.heap.size 77 _ (0,0) _ rfl (((((HB2.out.set_ 0 _).set_ 1 _).set_ 2 _).set_ 3 _)) underlying77 rfl (by kernel_rfl)) rfl ?_
   exact zAo rfl (zAV HO2.out (.inr (Nat.le_refl _)))
  | some nq =>
   obtain⟨⟨kk,n,l,ps⟩,q⟩:=nq
   unfold zAe at HLF
   simp only at HLF
   go_enter func97,ntmps97
   go_wp2_with (first
    | (go_at_call 123;refine(HA.out _ _).mono ?_;rintro e w1 ⟨rfl,rfl⟩)
    | (go_at_call 122;refine(HK.out _).mono ?_;rintro e w1 ⟨rfl,rfl⟩)
    | (go_at_call 124;refine(HLF.out _).mono ?_;rintro e w2 ⟨bv,pv,rfl,ho,hb,hpv⟩;obtain⟨Ab,cb,rfl,_,_⟩:=(hb [] (by simp)).formb;obtain⟨Ap,cp,rfl,_,_⟩:=(hpv [] (by simp)).form;have HBY:=zAA hb;have HPV:=zAA hpv;have HO2:=zAA (HO.out.trans ho);have HB2:=zAA (HB.out.only ho (by simp));have c0:=HB2.out.cell 0;have c1:=HB2.out.cell 1;have c2:=HB2.out.cell 2;have c3:=HB2.out.cell 3;simp at c0 c1 c2 c3;have f0:=HB2.out.frozen;clear ho hb hpv))
   refine bodyPost_ret (zAC rfl _ _ w.heap.size 77 _ (0,0) _ rfl (((((HB2.out.set_ 0 _).set_ 1 _).set_ 2 _).set_ 3 _)) underlying77 rfl (by kernel_rfl)) rfl ?_
   exact⟨_,_,rfl,zAV HO2.out (.inr (Nat.le_refl _)),zGC HBY.out,zGC HPV.out⟩
 ·have h40:atV s (p+1)≠40:=hk.resolve_left h4
  have HR:=zAA (zLu (f:=f) h0 h4 h40)
  generalize zAQ (atV s p:Nat)=k at *
  have e0:(k==0)=false:=by rw[beq_eq_false_iff_ne];exact h0
  have h4I:¬k<=4:=h4
  have h40I:((atV s (p+1):Nat):Int)≠40:=by omega
  have HA1:=zAA (show ∀W,Calls prog 123 #[.string s,.int .i64 ((p:Int)+1)] W fun e w'=>e=.returned (.int .u8 (atV s (p+1):Nat))∧W=w' from fun W=>by have h:=HA.out W (p+1);rwa [show((p+1:Nat):Int)=(p:Int)+1 by omega]at h)
  generalize atV s (p+1)=c1 at *
  have HF:=zAA ((HB.out.alloc (.cells #[.int .i64 k,.int .u64 0,.slice none 0 0,.slice none 0 0] 77)))
  clear h0 hk h4 h40
  go_enter func97,ntmps97
  go_wp2_with (first
   | (go_at_call 123;(with_reducible refine(HA1.out _).mono ?_);rintro e w1 ⟨rfl,rfl⟩)
   | (go_at_call 123;refine(HA.out _ _).mono ?_;rintro e w1 ⟨rfl,rfl⟩)
   | (go_at_call 122;refine(HK.out _).mono ?_;rintro e w1 ⟨rfl,rfl⟩))
  refine bodyPost_ret (zAC rfl _ _ w.heap.size 77 _ (0,0) _ rfl HF.out underlying77 rfl (by kernel_rfl)) rfl ?_
  exact zAo HR.out (HO.out.alloc _)
end
section
open Go.RowKit Go.Deep

theorem zJF{k:Int}{l:List UInt8}{u c:Nat}(h:zCT l=(u,c)):zCp k l=none↔(c≠0∨zAW k u=false):=by
 unfold zCp
 rw[h]
 simp only
 constructor
 ·intro hh
  split at hh
  ·cases hh
  ·rename_i h1
   by_cases hc:c=0
   ·right
    cases ha:zAW k u with
    | false=>rfl
    | true=>exact absurd ⟨hc,ha⟩ h1
   ·exact .inl hc
 ·intro hh
  rw[if_neg]
  rintro⟨h1,h2⟩
  rcases hh with hh|hh
  ·exact hh h1
  ·rw[hh]at h2;cases h2
theorem zHW{k:Int}{l:List UInt8}{u c n:Nat}(h:zCT l=(u,c))(hn:zCp k l=some n):c=0∧zAW k u=true∧n=u:=by
 unfold zCp at hn
 rw[h]at hn
 simp only at hn
 split at hn
 ·rename_i h1
  injection hn with hn
  exact⟨h1.1,h1.2,hn.symm⟩
 ·cases hn

theorem zCZ{w:World}{base e size n g t:Nat}{v:Value}{xs:List Value}{cs:Array Value}(h:w.ownsRow base e size v n xs)(hg:Blk w g t cs)(hte:t≠e):some g≠v.ownBlock:=by
 rcases h.2 with ⟨rfl,_⟩|⟨g3,cap,cur,rfl,_,hh,_⟩
 ·intro h;cases h
 ·intro h
  injection h with h
  subst h
  exact(Blk.ne_ (t':=e) (cs':=cur) hg hh hte) rfl

theorem zCi{w:World}{base e size n g t:Nat}{v:Value}{xs:List Value}{cs:Array Value}(h:w.ownsRow base e size v n xs)(hg:Blk w g t cs)(hte:t≠e)(i:Nat)(x:Value):(w.setCell ⟨g,i,none⟩ x).ownsRow base e size v n xs:=by
 have hne:=zCZ h hg hte
 obtain⟨h1,h2⟩:=h
 refine⟨h1,?_⟩
 rcases h2 with h2|⟨g3,cap,cur,rfl,hb,hh,h3⟩
 ·exact .inl h2
 ·refine .inr ⟨g3,cap,cur,rfl,hb,?_,h3⟩
  exact Blk.far (t:=e) (cs:=cur) (p:=⟨g,i,none⟩) hh (fun e'=>hne (show some g=some g3 from congrArg some e'.symm)) x

theorem zDB{w:World}{base e size n g t:Nat}{v:Value}{xs:List Value}{cs:Array Value}{a b c d:Value}(h:w.ownsRow base e size v n xs)(hg:Blk w g t cs)(hte:t≠e) :
  ((((w.setCell ⟨g,0,none⟩ a).setCell ⟨g,1,none⟩ b).setCell ⟨g,2,none⟩ c).setCell ⟨g,3,none⟩ d).ownsRow base e size v n xs :=
 zCi (zCi (zCi (zCi h hg hte 0 a) (hg.set_ 0 a) hte 1 b) ((hg.set_ 0 a).set_ 1 b) hte 2 c) (((hg.set_ 0 a).set_ 1 b).set_ 2 c) hte 3 d
theorem zB7{r:Option (Nd×Nat)}{k:Int}{n q m c:Nat}{parts:List ByteArray}{A:Option Addr}{w w':World}{qI:Int}(h:r=some ((k,n,[],parts),q))(ho:Only [] w w')(hp:w'.ownsRow w.heap.size 9 1 (.slice A m c) m (zAq parts))(_hm:parts.length=m)(hq:qI=(q:Nat)) :
  zAe r w (.returned (.tuple #[.agg #[.int .i64 k,.int .u64 (n:Nat),.slice none 0 0,.slice A m c],.int .i64 qI])) w':=by
 subst h hq
 exact⟨_,_,rfl,ho,fun N _=>Rd.nil _ N,fun N hN=>(Rd.of_own hp hN).1⟩
end
section
open Go.Proofs.Tryz
set_option maxHeartbeats 12800000
set_option maxRecDepth 100000
open Go.RowKit Go.Deep

theorem zIE(s:ByteArray)(f:Nat)(hT:∀f',f'<=f->zEc s f')(w:World)(p:Nat)(_hp:p<=s.size)(hs:s.size<=1000000)(hf:2*(s.size-p)+1<=f+1)(hk5:5<=zAQ (atV s p:Nat))(hkv:zAQ (atV s p:Nat)=8)(h40:atV s (p+1)=40) :
  Calls prog 97 #[.string s,.int .i64 p] w (zAe (rt s (f+1) none p) w):=by
 have HA:=zAA (fun W (q:Nat)=>zDz W s q (by unfold maxLen;omega))
 have HK:=zAA (fun W=>zCX (atV s p:Nat) W)
 have hp1:=zCC (s:=s) (p:=p+1) (by omega)
 have hkr:=(zBq (atV s p:Nat)).2
 have HRN:=zAA (fun h8=>zGB (s:=s) (f:=f) (p:=p) (zAQ (atV s p:Nat)) rfl h8 h40)
 have HRO:=zAA (fun h8=>zEb (s:=s) (f:=f) (p:=p) (zAQ (atV s p:Nat)) rfl hk5 h8 h40)
 have HA1:=zAA (show ∀W,Calls prog 123 #[.string s,.int .i64 ((p:Int)+1)] W fun e w'=>e=.returned (.int .u8 40)∧W=w' from fun W=>by have h:=HA.out W (p+1);rw[h40]at h;rwa [show((p+1:Nat):Int)=(p:Int)+1 by omega]at h)
 rw[hkv]at HK HRN HRO
 clear hkv hk5 hkr
 generalize rt s (f+1) none p=R at *
 have e0:((8:Int)==0)=false:=by rw[beq_eq_false_iff_ne];omega
 have h4I:¬(8:Int)<=4:=by omega
 have HB:=zAA ((Blk.new w 77 zBG).alloc (.cells #[.int .i64 8,.int .u64 0,.slice none 0 0,.slice none 0 0] 77))
 have HM:=zAA (Blk.new (w.alloc (.cells zBG 77)) 77 #[.int .i64 8,.int .u64 0,.slice none 0 0,.slice none 0 0])
 simp only[World.size_alloc]at HM
 have HO:=zAA (((Only.refl [] w).alloc (.cells zBG 77)).alloc (.cells #[.int .i64 8,.int .u64 0,.slice none 0 0,.slice none 0 0] 77))
 have HT:=zAA hT
 have HFF:=zAA hf
 clear hT hf h40
 ·have H8:(8:Int)=8∨(8:Int)=10:=by decide
  go_enter func97,ntmps97
  go_upto_if 46 with (first
   | (go_at_call 123;(with_reducible refine(HA1.out _).mono ?_);rintro e w1 ⟨rfl,rfl⟩)
   | (go_at_call 123;refine(HA.out _ _).mono ?_;rintro e w1 ⟨rfl,rfl⟩)
   | (go_at_call 122;refine(HK.out _).mono ?_;rintro e w1 ⟨rfl,rfl⟩))
  go_cut [1] (fun iv wr=>∃(n j:Nat),iv=.int .i64 (j:Nat)∧p+2<=j∧j<=s.size∧Hid (rst s f (8:Int) n j=R)∧Hid (Blk wr (w.heap.size+1) 77 #[.int .i64 (8:Int),.int .u64 (n:Nat),.slice none 0 0,.slice none 0 0])∧Hid (Blk wr w.heap.size 77 zBG)∧Hid (Only [] w wr))
  case first =>
   have hw1:=zEF s (p+2)
   have hw2:=zFe s (p+2) (by omega)
   have HW:=zAA (fun W=>zDZ W s (p+2) (by omega) (by unfold maxLen;omega))
   have hx:=zBb s (p+2) (zA8 s (p+2))
   unfold zCW at HW
   rw[show((p+2:Nat):Int)=(p:Int)+2 by omega]at HW
   have hrn:=HRN.out H8
   generalize zA8 s (p+2)=q at *
   generalize s.extract (p+2) q=t at *
   have HN:=zAA (fun W=>zFc W t (by omega))
   unfold zCx at HN
   have hnu:=zEN t.data.toList
   obtain⟨⟨u,c⟩,hr⟩:∃r,zCT t.data.toList=r:=⟨_,rfl⟩
   rw[hr]at HN hnu
   simp only at HN hnu
   have HAQ:=zAA (fun W=>HA.out W q)
   clear hx
   cases hnk:zCp (8:Int) t.data.toList with
   | none =>
    have HR:=zAA (show R=none by rw[hrn,hnk])
    rcases(zJF hr).1 hnk with hc|ha
    ·have hcI:((c:Int) != 0)=true:=by rw[bne_iff_ne];omega
     clear hrn hnk hr hc
     go_wp2_with (first
      | (go_at_call 125;refine(HW.out _).mono ?_;rintro e w1 ⟨rfl,rfl⟩)
      | (go_at_call 126;refine(HN.out _).mono ?_;rintro e w1 ⟨rfl,rfl⟩)
      | (go_at_call 123;refine(HAQ.out _).mono ?_;rintro e w1 ⟨rfl,rfl⟩))
     refine bodyPost_ret (zAC rfl _ _ w.heap.size 77 _ (0,0) _ rfl HB.out underlying77 rfl (by kernel_rfl)) rfl ?_
     exact zAo HR.out HO.out
    ·have ha2:¬(1<=(u:Int)∧(u:Int)<=3):=by
      unfold zAW at ha
      rw[if_neg (by decide),if_pos rfl]at ha
      exact of_decide_eq_false ha
     by_cases hcc:c=0
     ·subst hcc
      by_cases hu1:(u:Int)<1
      ·clear hrn hnk hr ha ha2
       go_wp2_with (first
        | (go_at_call 125;refine(HW.out _).mono ?_;rintro e w1 ⟨rfl,rfl⟩)
        | (go_at_call 126;refine(HN.out _).mono ?_;rintro e w1 ⟨rfl,rfl⟩)
        | (go_at_call 123;refine(HAQ.out _).mono ?_;rintro e w1 ⟨rfl,rfl⟩))
       refine bodyPost_ret (zAC rfl _ _ w.heap.size 77 _ (0,0) _ rfl HB.out underlying77 rfl (by kernel_rfl)) rfl ?_
       exact zAo HR.out HO.out
      ·have hu3:(3:Int)<u:=by omega
       clear hrn hnk hr ha ha2
       go_wp2_with (first
        | (go_at_call 125;refine(HW.out _).mono ?_;rintro e w1 ⟨rfl,rfl⟩)
        | (go_at_call 126;refine(HN.out _).mono ?_;rintro e w1 ⟨rfl,rfl⟩)
        | (go_at_call 123;refine(HAQ.out _).mono ?_;rintro e w1 ⟨rfl,rfl⟩))
       refine bodyPost_ret (zAC rfl _ _ w.heap.size 77 _ (0,0) _ rfl HB.out underlying77 rfl (by kernel_rfl)) rfl ?_
       exact zAo HR.out HO.out
     ·have hcI:((c:Int) != 0)=true:=by rw[bne_iff_ne];omega
      clear hrn hnk hr ha ha2
      go_wp2_with (first
       | (go_at_call 125;refine(HW.out _).mono ?_;rintro e w1 ⟨rfl,rfl⟩)
       | (go_at_call 126;refine(HN.out _).mono ?_;rintro e w1 ⟨rfl,rfl⟩)
       | (go_at_call 123;refine(HAQ.out _).mono ?_;rintro e w1 ⟨rfl,rfl⟩))
      refine bodyPost_ret (zAC rfl _ _ w.heap.size 77 _ (0,0) _ rfl HB.out underlying77 rfl (by kernel_rfl)) rfl ?_
      exact zAo HR.out HO.out
   | some n =>
    obtain⟨rfl,ha,rfl⟩:=zHW hr hnk
    rw[hnk]at hrn
    simp only at hrn
    have ha2:1<=(n:Int)∧(n:Int)<=3:=by
     unfold zAW at ha
     rw[if_neg (by decide),if_pos rfl]at ha
     exact of_decide_eq_true ha
    have hu1:¬(n:Int)<1:=by omega
    have hu3:¬(3:Int)<n:=by omega
    by_cases h44:atV s q=44
    ·rw[if_neg (by rw[h44];simp)]at hrn
     have hq:=zCC (s:=s) (p:=q) (by omega)
     rw[h44]at HAQ
     have HR:=zAA hrn
     clear hrn hnk hr ha
     go_wp2_with (first
      | (go_at_call 125;refine(HW.out _).mono ?_;rintro e w1 ⟨rfl,rfl⟩)
      | (go_at_call 126;refine(HN.out _).mono ?_;rintro e w1 ⟨rfl,rfl⟩)
      | (go_at_call 123;refine(HAQ.out _).mono ?_;rintro e w1 ⟨rfl,rfl⟩))
     go_meet
     exact⟨n,q+1,(by go_num),by omega,by omega,zAA HR.out.symm,(by have h:=Blk.new (w.alloc (.cells zBG 77)) 77 #[.int .i64 (8:Int),.int .u64 (n:Nat),.slice none 0 0,.slice none 0 0];rw[World.size_alloc]at h;exact zAA h),zAA ((Blk.new w 77 zBG).alloc _),zAA (((Only.refl [] w).alloc _).alloc _)⟩
    ·rw[if_pos h44]at hrn
     have HR:=zAA hrn
     have h44I:(((atV s q:Nat):Int) != 44)=true:=by rw[bne_iff_ne];omega
     clear hrn hnk hr ha
     go_wp2_with (first
      | (go_at_call 125;refine(HW.out _).mono ?_;rintro e w1 ⟨rfl,rfl⟩)
      | (go_at_call 126;refine(HN.out _).mono ?_;rintro e w1 ⟨rfl,rfl⟩)
      | (go_at_call 123;refine(HAQ.out _).mono ?_;rintro e w1 ⟨rfl,rfl⟩))
     refine bodyPost_ret (zAC rfl _ _ w.heap.size 77 _ (0,0) _ rfl HB.out underlying77 rfl (by kernel_rfl)) rfl ?_
     exact zAo HR.out HO.out
  case rest =>
   obtain⟨n,j,rfl,hj1,hj2,HST,HM1,HB1,HO1⟩:=hcut
   have HST:=zAA (HST.out.symm.trans (show rst s f (8:Int) n j=rt s f (some (8,n,[])) j by unfold rst;rw[if_neg (by rintro⟨h,_⟩;exact absurd h (by decide))]))
   obtain⟨i0,hi,hz0,hz1,hz2⟩:=info_parts (show(prog.info? 9).map (fun i=>(i.zero,i.size,i.bytes))=some (some (.string ByteArray.empty),1,16)by kernel_rfl)
   clear HM HB HO
   go_wp2_with fail
   go_loopw [1] (fun iv wr2=>∃(j f1:Nat) (parts:List ByteArray) (A:Option Addr) (c:Nat),iv=.int .i64 (j:Nat)∧j<=s.size∧2*(s.size-j)+2<=f1∧f1<=f∧parts.length<=j∧Hid (R=rt s f1 (some ((8:Int),n,parts)) j)∧Hid (Blk wr2 (w.heap.size+1) 77 #[.int .i64 (8:Int),.int .u64 (n:Nat),.slice none 0 0,.slice A parts.length c])∧Hid (wr2.ownsRow w.heap.size 9 1 (.slice A parts.length c) parts.length (zAq parts))∧Hid (Blk wr2 w.heap.size 77 zBG)∧Hid (Only [] w wr2)) (fun iv _=>s.size-(intOf iv).toNat)
   case atStart=>exact⟨j,f,[],none,0,rfl,hj2,by have:=HFF.out;omega,Nat.le_refl _,by simp,HST,HM1,zAA ⟨by simp[zAq],.inl ⟨rfl,rfl⟩⟩,HB1,HO1⟩
   case round =>
    clear HM1 HB1 HO1 HST hj1 hj2
    obtain⟨j,f1,parts,A,c,rfl,hj,hf1,hff,hpl,HST,HM1,HOW,HB1,HO1⟩:=hrel
    obtain⟨f2,rfl⟩:∃f2,f1=f2+1:=⟨f1-1,by omega⟩
    have HC:=zAA (HT.out f2 (by omega) wr j hj hs (by omega))
    have hst:=HST.out
    rw[rt]at hst
    have hbd:=zJE s f2 none j
    cases hq:rt s f2 none j with
    | none =>
     rw[hq]at hst HC
     simp only at hst
     have HR:=zAA hst
     unfold zAe at HC
     simp only at HC
     clear hst hq hbd HST
     go_wp2_with (go_at_call 97;refine HC.out.mono ?_;rintro e w2 ⟨rfl,ho⟩;have HO1:=zAA ((HO1.out.trans ho).alloc (.cells #[.int .i64 0,.int .u64 0,.slice none 0 0,.slice none 0 0] 77));have HB1:=zAA ((HB1.out.only ho (by simp)).alloc (.cells #[.int .i64 0,.int .u64 0,.slice none 0 0,.slice none 0 0] 77));have z0:=HB1.out.cell 0;have z1:=HB1.out.cell 1;have z2:=HB1.out.cell 2;have z3:=HB1.out.cell 3;simp at z0 z1 z2 z3;have zf:=HB1.out.frozen;clear ho)
     refine bodyPost_ret (zAC rfl _ _ w.heap.size 77 _ (0,0) _ rfl (((((HB1.out.set_ 0 _).set_ 1 _).set_ 2 _).set_ 3 _)) underlying77 rfl (by kernel_rfl)) rfl ?_
     exact zAo HR.out (zAV HO1.out (.inr (Nat.le_refl _)))
    | some nq =>
     obtain⟨⟨k2,n2,l2,ps2⟩,q⟩:=nq
     rw[hq]at hst HC
     simp only at hst
     have hb2:=hbd _ _ hq
     unfold zAe at HC
     simp only at HC
     clear hbd hq HST
     go_upto_region 22 with (go_at_call 97;refine HC.out.mono ?_;rintro e w2 ⟨bv,pv,rfl,ho,hbb,hpp⟩;obtain⟨Ab,cb,rfl,_,_⟩:=(hbb [] (by simp)).formb;obtain⟨Ap,cp,rfl,_,_⟩:=(hpp [] (by simp)).form;have HO1:=zAA ((HO1.out.trans ho).alloc (.cells #[.int .i64 k2,.int .u64 (n2:Nat),.slice Ab l2.length cb,.slice Ap (zAq ps2).length cp] 77));have HB1:=zAA ((HB1.out.only ho (by simp)).alloc (.cells #[.int .i64 k2,.int .u64 (n2:Nat),.slice Ab l2.length cb,.slice Ap (zAq ps2).length cp] 77));have HM1:=zAA ((HM1.out.only ho (by simp)).alloc (.cells #[.int .i64 k2,.int .u64 (n2:Nat),.slice Ab l2.length cb,.slice Ap (zAq ps2).length cp] 77));have HOW:=zAA ((zAa HOW.out ho (by simp)).alloc (.cells #[.int .i64 k2,.int .u64 (n2:Nat),.slice Ab l2.length cb,.slice Ap (zAq ps2).length cp] 77));clear ho hbb hpp)
     generalize (w2.alloc (.cells #[.int .i64 k2,.int .u64 (n2:Nat),.slice Ab l2.length cb,.slice Ap (zAq ps2).length cp] 77))=wA at *
     have m3:=HM1.out.cell 3
     simp at m3
     have hqj:(j:Int)<=q:=by omega
     have hqs:(q:Int)<=s.size:=by omega
     have HSZ:=zAA HO1.out.size
     have HLM:=zAA HM1.out.lt
     have HRN:=zAA (zAi wA.drew 9 (.string (s.extract j q)) (wA.heap.size+1) (Nat.lt_succ_self _))
     have HOW2:=zAA (World.ownsRow.alloc (zAa HOW.out ((Only.refl [] wA).drew) (by simp)) (.cells #[.string (s.extract j q)] 9))
     have HM2:=zAA (HM1.out.drew.alloc (.cells #[.string (s.extract j q)] 9))
     have m3b:=(HM1.out.alloc (.cells #[.string (s.extract j q)] 9)).cell 3
     simp at m3b
     have HB2:=zAA (HB1.out.drew.alloc (.cells #[.string (s.extract j q)] 9))
     have HO2:=zAA (HO1.out.drew.alloc (.cells #[.string (s.extract j q)] 9))
     go_region_law (first
      | (refine zAt _ rfl (.tmp 104) (.tmp 109) 75 rfl w.heap.size 9 i0 (.string ByteArray.empty) 1 16 underlying75 hi hz0 hz1 hz2 rfl (by decide) _ parts.length _ rfl HOW2.out _ _ 1 1 [.string (s.extract j q)] rfl HRN.out (by simp[Value.oneCell']) (by unfold maxLen;omega) (by omega) (by have:=HSZ.out;simp;omega) ?_;intro v1 w3 hown1 hg1 _;rw[zCA]at hown1;obtain⟨A1,c1,rfl,_,_⟩:=zAh hown1;have HM3:=zAA (HM2.out.grown hg1 (zCZ HOW2.out HM2.out (by decide)));have HB3:=zAA (HB2.out.grown hg1 (zCZ HOW2.out HB2.out (by decide)));have HO3:=zAA (HO2.out.grown hg1 (fun jj hjj=>.inr (zAP HOW2.out hjj)));have HOW3:=zAA hown1;have y0:=HM3.out.cell 0;have y1:=HM3.out.cell 1;have y2:=HM3.out.cell 2;have y3:=HM3.out.cell 3;simp at y0 y1 y2 y3;have yf:=HM3.out.frozen;clear hown1 hg1))
     all_goals
      have HM4:=zAA (HM3.out.set_ 3 (.slice A1 (parts.length+1) c1))
      have HB4:=zAA (HB3.out.far (p:=⟨w.heap.size+1,3,none⟩) (by simp) (.slice A1 (parts.length+1) c1))
      have HO4:=zAA (HO3.out.setCell (p:=⟨w.heap.size+1,3,none⟩) (.inr (by simp)) (.slice A1 (parts.length+1) c1))
      have HOW4:=zAA (zCi HOW3.out HM3.out (by decide) 3 (.slice A1 (parts.length+1) c1))
      go_upto_region 23 with (fail)
      generalize w3.setCell ⟨w.heap.size+1,3,none⟩ (.slice A1 (parts.length+1) c1)=w4 at *
      have z0:=HB4.out.cell 0
      have z1:=HB4.out.cell 1
      have z2:=HB4.out.cell 2
      have z3:=HB4.out.cell 3
      simp at z0 z1 z2 z3
      have zf:=HB4.out.frozen
      have x0:=HM4.out.cell 0
      have x1:=HM4.out.cell 1
      have x2:=HM4.out.cell 2
      have x3:=HM4.out.cell 3
      simp at x0 x1 x2 x3
      have HAQ:=zAA (fun W=>HA.out W q)
      clear y0 y1 y2 y3 yf m3 m3b
      by_cases h41:atV s q=41
      ·rw[if_pos h41]at hst
       rw[h41]at HAQ
       have hqlt:=zCC (s:=s) (p:=q) (by omega)
       have HRG:=zAA (fun W=>zCY (8:Int) ((parts.length+1:Nat):Int) W)
       cases hrt:zBc (8:Int) ((parts.length+1:Nat):Int)with
       | false =>
        rw[if_neg (by rintro⟨h,_⟩;rw[hrt]at h;cases h)]at hst
        rw[hrt]at HRG
        have HR:=zAA hst
        clear hst hrt h41
        go_wp2_with (go_at_call 123;refine(HAQ.out _).mono ?_;rintro e w9 ⟨rfl,rfl⟩)
        go_quiet (exact zA9 (HRG.out _))
        go_wp2_with fail
        refine bodyPost_ret (zAC rfl _ _ w.heap.size 77 _ (0,0) _ rfl ((((((HB4.out.drewN _).set_ 0 _).set_ 1 _).set_ 2 _).set_ 3 _)) underlying77 rfl (by kernel_rfl)) rfl ?_
        exact zAo HR.out (zAV (HO4.out.drewN _) (.inr (Nat.le_refl _)))
       | true =>
        rw[if_pos ⟨hrt,(by rintro⟨h,_⟩;exact absurd h (by decide))⟩]at hst
        rw[hrt]at HRG
        have HR:=zAA hst
        clear hst hrt h41
        go_wp2_with (go_at_call 123;refine(HAQ.out _).mono ?_;rintro e w9 ⟨rfl,rfl⟩)
        go_quiet (exact zA9 (HRG.out _))
        go_wp2_with fail
        refine bodyPost_ret (zAC rfl _ _ w.heap.size 77 _ (0,0) _ rfl ((((((HB4.out.drewN _).set_ 0 _).set_ 1 _).set_ 2 _).set_ 3 _)) underlying77 rfl (by kernel_rfl)) rfl ?_
        exact zB7 HR.out (zAV (HO4.out.drewN _) (.inr (Nat.le_refl _))) (zDB (zAa HOW4.out ((Only.refl [] w4).drewN _) (by simp)) (HB4.out.drewN _) (by decide)) (by rw[List.length_append,List.length_singleton]) (by go_num)
      ·rw[if_neg h41]at hst
       have h41I:(((atV s q:Nat):Int)==41)=false:=by rw[beq_eq_false_iff_ne];omega
       by_cases h44:atV s q=44
       ·rw[if_neg (by rw[h44];simp)]at hst
        rw[h44]at HAQ
        have hqlt:=zCC (s:=s) (p:=q) (by omega)
        have HR:=zAA hst
        clear hst h41 h41I
        go_wp2_with (go_at_call 123;refine(HAQ.out _).mono ?_;rintro e w9 ⟨rfl,rfl⟩)
        go_roundw
        case rel=>exact⟨q+1,f2,parts++[s.extract j q],A1,c1,(by go_num),by omega,by omega,by omega,(by rw[List.length_append,List.length_singleton];omega),HR,(by rw[List.length_append,List.length_singleton];exact HM4),(by rw[List.length_append,List.length_singleton];exact HOW4),HB4,HO4⟩
        case measure=>simp[intOf];omega
       ·rw[if_pos h44]at hst
        have h44I:(((atV s q:Nat):Int) != 44)=true:=by rw[bne_iff_ne];omega
        have HR:=zAA hst
        clear hst h41
        go_wp2_with (go_at_call 123;refine(HAQ.out _).mono ?_;rintro e w9 ⟨rfl,rfl⟩)
        refine bodyPost_ret (zAC rfl _ _ w.heap.size 77 _ (0,0) _ rfl (((((HB4.out.set_ 0 _).set_ 1 _).set_ 2 _).set_ 3 _)) underlying77 rfl (by kernel_rfl)) rfl ?_
        exact zAo HR.out (zAV HO4.out (.inr (Nat.le_refl _)))
end
end Go.Proofs.YtfipdjlalfpbnaaGreatDoor
