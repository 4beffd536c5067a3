/-
  Walks and plain words (texts Rp). No condition beyond those that each theorem states.
-/
import Derived.Test.YtfipdjlalfpbnaaGreatDoorA28
namespace Go.Proofs.YtfipdjlalfpbnaaGreatDoor
section
open Go.Proofs.Tryz
set_option maxHeartbeats 12800000
set_option maxRecDepth 100000
open Go.RowKit Go.Deep

theorem zAr(a:List UInt8)(p:ByteArray):zAD a++p=zAD (a++p.data.toList):=by
 have h:=zAO a p.data.toList
 rwa [zBB]at h
theorem zCG{l:List ByteArray}{j:Nat}(hj:j<l.length):l.getD j ByteArray.empty∈l:=by
 rw[List.getD_eq_getElem?_getD,List.getElem?_eq_getElem hj];exact List.getElem_mem hj
theorem zHl{l:List ByteArray}(h:l.length=2):∃p q,l=[p,q]:=by
 match l,h with
 | [a,b],_=>exact⟨a,b,rfl⟩

theorem zIV(k:Int)(hk:k=5∨k=7∨k=9∨k=11)(n:Nat)(hn:n<18446744073709551616)(bv lv:Value)(b:List UInt8)(_hbl:b.length<=100000)(l:List ByteArray)(hll:l.length<=1000)(hsz:∀p∈l,p.size<=maxLen)(w:World)
  (hv:Rd w [] lv (zAq l)) :
  Calls prog 101 #[.int .i64 k,.int .u64 n,bv,lv] w (zBS (zAS k n b l) w):=by
 have hr:1<=k∧k<=11:=by omega
 have HYES:=zAA (fun hp hs=>zC5 (k:=k) (n:=n) (b:=b) (l:=l) hr hn (fun h=>by omega) hp hs)
 have HNO:=zAA (fun hp hs=>zDn (k:=k) (n:=n) (b:=b) (l:=l) hr hn (fun h=>by omega) hp hs)
 have HPRT:=zAA (fun(i:Nat) hi h=>zDJ (k:=k) (n:=n) (b:=b) (l:=l) (i:=i) hi h)
 have HHL:=zAA (zDm k n hn (zAZ k l))
 have HTX:=zAA (zDl k n b (zAZ k l) (by omega))
 have hss:=zDD k l
 have HSZ:=zAA (show ∀p∈zAZ k l,p.size<=maxLen from fun p hp=>hsz p ((hss p).1 hp))
 have hsl0:=zDC k l
 have hso:zAZ k l=l:=zBH (by omega) l
 rw[hso]at HYES HNO HPRT HHL HTX HSZ
 obtain⟨A,cap,rfl,hc1,hc2⟩:=hv.form
 unfold maxLen at hc2
 rw[zBN]at hv hc1 ⊢
 obtain⟨m,hm⟩:∃m,m=l.length:=⟨_,rfl⟩
 have HM:=zAA hm
 have HML:=zAA (show m<=1000 by rw[hm];exact hll)
 rw[<-hm]at hv hc1 ⊢
 have HV0:=zAA hv
 obtain⟨PRE,hPRE⟩:∃P,P=zD4 k n l:=⟨_,rfl⟩
 rw[<-hPRE]at HHL HTX
 obtain⟨S0,hS0⟩:∃S,S=zAD [zCI k]:=⟨_,rfl⟩
 obtain⟨S1,hS1⟩:∃S,S=zAD [zCI k,40]:=⟨_,rfl⟩
 have e1:S0++⟨#[40]⟩=S1:=by rw[hS0,hS1];exact zAO [zCI k] [40]
 have hov1:¬9223372036854775807<S0.size+1:=by rw[hS0,zAF];simp
 have hs1:S1.size=2:=by rw[hS1,zAF];rfl
 have HSP:=zAA (show S1=zAD PRE by rw[hS1,hPRE];unfold zD4;rw[show zAK k=false by rcases hk with rfl|rfl|rfl|rfl<;>decide,if_neg (by decide)])
 clear hv hn _hbl hll hsz hm hss hso hsl0 hS1 hPRE hr
 rcases hk with rfl|rfl|rfl|rfl
 ·have hsl:∀W,(Instr.sliceAt 9 (.string ⟨#[48,97,110,120,112,100,104,107,109,115,108]⟩) (some (.int .i64 4)) (some (.int .i64 5)) none).run prog W=.ok (.string S0) W:=fun W=>by rw[hS0];kernel_rfl
  clear hS0
  go_enter func101,ntmps101
  go_wp2_with fail
  go_quiet (fail)
  go_wp2_with fail
  have HQ:=zAA ((Only.refl [] w).drewN nq)
  have HV:=zAA (HV0.out.only HQ.out (by simp))
  generalize w.drewN nq=wq at *
  have HC:=zAA (Only.refl [] wq)
  go_loopw [10,9] (fun i s wr=>∃j:Nat,j<=m∧i=.int .i64 j∧s=.string (zAD (PRE++zAI (l.take j)))∧Hid (∀i,i<j->(zAE (l.getD i ByteArray.empty)).isSome=true)∧Hid (Only [] wq wr)) (fun i _ _=>m-(intOf i).toNat)
  case atStart=>exact⟨0,Nat.zero_le _,rfl,(by rw[HSP.out];simp[zAI]),zAA (fun i h=>absurd h (Nat.not_lt_zero i)),HC⟩
  case round =>
   clear HC
   obtain⟨j,hj,rfl,rfl,HK,HC⟩:=hrel
   have HJB:=zAA (show(PRE++zAI (l.take j)).length<=70000000 by have h1:=zA0 l j HK.out (by rw[<-HM.out];exact hj);have h2:=HHL.out;have h3:=HML.out;rw[List.length_append];have h4:j*65537<=1000*65537:=Nat.mul_le_mul_right _ (Nat.le_trans hj h3);omega)
   obtain⟨S,hS⟩:∃S,S=zAD (PRE++zAI (l.take j)):=⟨_,rfl⟩
   have hSs:S.size<=70000000:=by rw[hS,zAF];exact HJB.out
   rw[<-hS]
   have HS:=zAA hS
   clear hS
   by_cases hlt:j<m
   ·have hltI:(j:Int)<m:=by omega
    have hjl:j<l.length:=by rw[<-HM.out];exact hlt
    obtain⟨g,o,hAA,_,hg,hcell0⟩:=HV.out.at_.2.2.2 j _ (zCF hjl)
    first|subst hAA|cases hAA
    have HCE:=zAA (fun W (h:Only [] wq W)=>(zAX h hg (by simp)).trans hcell0)
    have HIS:=zAA (fun W=>zAd W (l.getD j ByteArray.empty) (HSZ.out _ (zCG hjl)))
    unfold zAn at HIS
    rcases Bool.eq_false_or_eq_true (zAE (l.getD j ByteArray.empty)).isSome with hq|hq
    ·have HZ:=zAA (show ∀i,i<j+1->(zAE (l.getD i ByteArray.empty)).isSome=true from fun i hi=>(Nat.lt_or_eq_of_le (Nat.le_of_lt_succ hi)).elim (HK.out i) (fun h=>by rw[h];exact hq))
     have hps:=zBJ hq
     have HJ:=zAA (zAs l j hjl)
     rw[hq]at HIS
     generalize l.getD j ByteArray.empty=part at *
     have hcell:=HCE.out _ HC.out
     clear hq hjl hcell0
     by_cases h0:j=0
     ·have hzero:¬(0:Int)<j:=by omega
      have hzeroN:¬0<j:=by omega
      obtain⟨T,hT⟩:∃T,S++part=T:=⟨_,rfl⟩
      have HTT:=zAA (show T=zAD (PRE++zAI (l.take (j+1)))by rw[<-hT,HS.out,HJ.out,if_pos h0,List.nil_append,zAr,List.append_assoc])
      have hov:¬9223372036854775807<S.size+part.size:=by omega
      clear h0
      go_wp2_with (go_at_call 18;refine(HIS.out _).mono ?_;rintro e w2 ⟨rfl,ho⟩;have HC:=zAA (HC.out.trans ho);clear ho hcell;have hcell:=HCE.out _ HC.out)
      go_roundw
      case rel=>exact⟨j+1,by omega,by go_num,by rw[HTT.out],HZ,HC⟩
      case measure=>simp[intOf];omega
     ·have hpos:(0:Int)<j:=by omega
      have hposN:0<j:=by omega
      obtain⟨U,hU⟩:∃U,S++⟨#[44]⟩=U:=⟨_,rfl⟩
      obtain⟨T,hT⟩:∃T,U++part=T:=⟨_,rfl⟩
      have hUU:U=zAD (PRE++zAI (l.take j)++[44]):=by rw[<-hU,HS.out];exact zAO _ [44]
      have HTT:=zAA (show T=zAD (PRE++zAI (l.take (j+1)))by rw[<-hT,hUU,HJ.out,if_neg h0,zAr];simp)
      have hUs:U.size<=70000001:=by rw[hUU,zAF,List.length_append];have:=HJB.out;simp only[List.length_cons,List.length_nil];omega
      have hov:¬9223372036854775807<S.size+1:=by omega
      have hov2:¬9223372036854775807<U.size+part.size:=by omega
      clear h0 hUU
      go_wp2_with (go_at_call 18;refine(HIS.out _).mono ?_;rintro e w2 ⟨rfl,ho⟩;have HC:=zAA (HC.out.trans ho);clear ho hcell;have hcell:=HCE.out _ HC.out)
      go_roundw
      case rel=>exact⟨j+1,by omega,by go_num,by rw[HTT.out],HZ,HC⟩
      case measure=>simp[intOf];omega
    ·have HMK:=zAA (HPRT.out j hjl hq)
     rw[hq]at HIS
     generalize l.getD j ByteArray.empty=part at *
     have hcell:=HCE.out _ HC.out
     clear hq hjl hcell0
     go_wp2_with (go_at_call 18;refine(HIS.out _).mono ?_;rintro e w2 ⟨rfl,ho⟩;have HC:=zAA (HC.out.trans ho);clear ho hcell;have hcell:=HCE.out _ HC.out)
     go_ret
     exact zAN HMK.out (HQ.out.trans HC.out)
   ·have hge:¬(j:Int)<m:=by omega
    obtain⟨T,hT⟩:∃T,S++⟨#[41]⟩=T:=⟨_,rfl⟩
    have hTT:T=zAD (zA5 5 n b l):=by rw[<-hT,HS.out,HTX.out,List.take_of_length_le (by have:=HM.out;omega)];exact zAO _ [41]
    have hTs:T.size<=70000001:=by rw[<-hT,HS.out,show zAD (PRE++zAI (l.take j))++⟨#[41]⟩=zAD (PRE++zAI (l.take j)++[41])from zAO _ [41],zAF,List.length_append];have:=HJB.out;simp only[List.length_cons,List.length_nil];omega
    have HIS:=zAA (fun W=>zAd W T (by unfold maxLen;omega))
    unfold zAn at HIS
    have hov:¬9223372036854775807<S.size+1:=by omega
    have hkk:∀i,i<l.length->(zAE (l.getD i ByteArray.empty)).isSome=true:=fun i hi=>HK.out i (by have:=HM.out;omega)
    rcases Bool.eq_false_or_eq_true (zAE T).isSome with hq|hq
    ·have HMK:=zAA (show zAS 5 n b l=T by rw[hTT];rw[hTT]at hq;exact HYES.out hkk hq)
     rw[hq]at HIS
     clear hq hTT hkk
     go_wp2_with (go_at_call 18;refine(HIS.out _).mono ?_;rintro e w2 ⟨rfl,ho⟩;have HC:=zAA (HC.out.trans ho);clear ho)
     go_ret
     exact zAN HMK.out (HQ.out.trans HC.out)
    ·have HMK:=zAA (show zAS 5 n b l=ByteArray.empty by rw[hTT]at hq;exact HNO.out hkk hq)
     rw[hq]at HIS
     clear hq hTT hkk
     go_wp2_with (go_at_call 18;refine(HIS.out _).mono ?_;rintro e w2 ⟨rfl,ho⟩;have HC:=zAA (HC.out.trans ho);clear ho)
     go_ret
     exact zAN HMK.out (HQ.out.trans HC.out)
 ·have hsl:∀W,(Instr.sliceAt 9 (.string ⟨#[48,97,110,120,112,100,104,107,109,115,108]⟩) (some (.int .i64 6)) (some (.int .i64 7)) none).run prog W=.ok (.string S0) W:=fun W=>by rw[hS0];kernel_rfl
  clear hS0
  go_enter func101,ntmps101
  go_wp2_with fail
  go_quiet (fail)
  go_wp2_with fail
  have HQ:=zAA ((Only.refl [] w).drewN nq)
  have HV:=zAA (HV0.out.only HQ.out (by simp))
  generalize w.drewN nq=wq at *
  have HC:=zAA (Only.refl [] wq)
  go_loopw [10,9] (fun i s wr=>∃j:Nat,j<=m∧i=.int .i64 j∧s=.string (zAD (PRE++zAI (l.take j)))∧Hid (∀i,i<j->(zAE (l.getD i ByteArray.empty)).isSome=true)∧Hid (Only [] wq wr)) (fun i _ _=>m-(intOf i).toNat)
  case atStart=>exact⟨0,Nat.zero_le _,rfl,(by rw[HSP.out];simp[zAI]),zAA (fun i h=>absurd h (Nat.not_lt_zero i)),HC⟩
  case round =>
   clear HC
   obtain⟨j,hj,rfl,rfl,HK,HC⟩:=hrel
   have HJB:=zAA (show(PRE++zAI (l.take j)).length<=70000000 by have h1:=zA0 l j HK.out (by rw[<-HM.out];exact hj);have h2:=HHL.out;have h3:=HML.out;rw[List.length_append];have h4:j*65537<=1000*65537:=Nat.mul_le_mul_right _ (Nat.le_trans hj h3);omega)
   obtain⟨S,hS⟩:∃S,S=zAD (PRE++zAI (l.take j)):=⟨_,rfl⟩
   have hSs:S.size<=70000000:=by rw[hS,zAF];exact HJB.out
   rw[<-hS]
   have HS:=zAA hS
   clear hS
   by_cases hlt:j<m
   ·have hltI:(j:Int)<m:=by omega
    have hjl:j<l.length:=by rw[<-HM.out];exact hlt
    obtain⟨g,o,hAA,_,hg,hcell0⟩:=HV.out.at_.2.2.2 j _ (zCF hjl)
    first|subst hAA|cases hAA
    have HCE:=zAA (fun W (h:Only [] wq W)=>(zAX h hg (by simp)).trans hcell0)
    have HIS:=zAA (fun W=>zAd W (l.getD j ByteArray.empty) (HSZ.out _ (zCG hjl)))
    unfold zAn at HIS
    rcases Bool.eq_false_or_eq_true (zAE (l.getD j ByteArray.empty)).isSome with hq|hq
    ·have HZ:=zAA (show ∀i,i<j+1->(zAE (l.getD i ByteArray.empty)).isSome=true from fun i hi=>(Nat.lt_or_eq_of_le (Nat.le_of_lt_succ hi)).elim (HK.out i) (fun h=>by rw[h];exact hq))
     have hps:=zBJ hq
     have HJ:=zAA (zAs l j hjl)
     rw[hq]at HIS
     generalize l.getD j ByteArray.empty=part at *
     have hcell:=HCE.out _ HC.out
     clear hq hjl hcell0
     by_cases h0:j=0
     ·have hzero:¬(0:Int)<j:=by omega
      have hzeroN:¬0<j:=by omega
      obtain⟨T,hT⟩:∃T,S++part=T:=⟨_,rfl⟩
      have HTT:=zAA (show T=zAD (PRE++zAI (l.take (j+1)))by rw[<-hT,HS.out,HJ.out,if_pos h0,List.nil_append,zAr,List.append_assoc])
      have hov:¬9223372036854775807<S.size+part.size:=by omega
      clear h0
      go_wp2_with (go_at_call 18;refine(HIS.out _).mono ?_;rintro e w2 ⟨rfl,ho⟩;have HC:=zAA (HC.out.trans ho);clear ho hcell;have hcell:=HCE.out _ HC.out)
      go_roundw
      case rel=>exact⟨j+1,by omega,by go_num,by rw[HTT.out],HZ,HC⟩
      case measure=>simp[intOf];omega
     ·have hpos:(0:Int)<j:=by omega
      have hposN:0<j:=by omega
      obtain⟨U,hU⟩:∃U,S++⟨#[44]⟩=U:=⟨_,rfl⟩
      obtain⟨T,hT⟩:∃T,U++part=T:=⟨_,rfl⟩
      have hUU:U=zAD (PRE++zAI (l.take j)++[44]):=by rw[<-hU,HS.out];exact zAO _ [44]
      have HTT:=zAA (show T=zAD (PRE++zAI (l.take (j+1)))by rw[<-hT,hUU,HJ.out,if_neg h0,zAr];simp)
      have hUs:U.size<=70000001:=by rw[hUU,zAF,List.length_append];have:=HJB.out;simp only[List.length_cons,List.length_nil];omega
      have hov:¬9223372036854775807<S.size+1:=by omega
      have hov2:¬9223372036854775807<U.size+part.size:=by omega
      clear h0 hUU
      go_wp2_with (go_at_call 18;refine(HIS.out _).mono ?_;rintro e w2 ⟨rfl,ho⟩;have HC:=zAA (HC.out.trans ho);clear ho hcell;have hcell:=HCE.out _ HC.out)
      go_roundw
      case rel=>exact⟨j+1,by omega,by go_num,by rw[HTT.out],HZ,HC⟩
      case measure=>simp[intOf];omega
    ·have HMK:=zAA (HPRT.out j hjl hq)
     rw[hq]at HIS
     generalize l.getD j ByteArray.empty=part at *
     have hcell:=HCE.out _ HC.out
     clear hq hjl hcell0
     go_wp2_with (go_at_call 18;refine(HIS.out _).mono ?_;rintro e w2 ⟨rfl,ho⟩;have HC:=zAA (HC.out.trans ho);clear ho hcell;have hcell:=HCE.out _ HC.out)
     go_ret
     exact zAN HMK.out (HQ.out.trans HC.out)
   ·have hge:¬(j:Int)<m:=by omega
    obtain⟨T,hT⟩:∃T,S++⟨#[41]⟩=T:=⟨_,rfl⟩
    have hTT:T=zAD (zA5 7 n b l):=by rw[<-hT,HS.out,HTX.out,List.take_of_length_le (by have:=HM.out;omega)];exact zAO _ [41]
    have hTs:T.size<=70000001:=by rw[<-hT,HS.out,show zAD (PRE++zAI (l.take j))++⟨#[41]⟩=zAD (PRE++zAI (l.take j)++[41])from zAO _ [41],zAF,List.length_append];have:=HJB.out;simp only[List.length_cons,List.length_nil];omega
    have HIS:=zAA (fun W=>zAd W T (by unfold maxLen;omega))
    unfold zAn at HIS
    have hov:¬9223372036854775807<S.size+1:=by omega
    have hkk:∀i,i<l.length->(zAE (l.getD i ByteArray.empty)).isSome=true:=fun i hi=>HK.out i (by have:=HM.out;omega)
    rcases Bool.eq_false_or_eq_true (zAE T).isSome with hq|hq
    ·have HMK:=zAA (show zAS 7 n b l=T by rw[hTT];rw[hTT]at hq;exact HYES.out hkk hq)
     rw[hq]at HIS
     clear hq hTT hkk
     go_wp2_with (go_at_call 18;refine(HIS.out _).mono ?_;rintro e w2 ⟨rfl,ho⟩;have HC:=zAA (HC.out.trans ho);clear ho)
     go_ret
     exact zAN HMK.out (HQ.out.trans HC.out)
    ·have HMK:=zAA (show zAS 7 n b l=ByteArray.empty by rw[hTT]at hq;exact HNO.out hkk hq)
     rw[hq]at HIS
     clear hq hTT hkk
     go_wp2_with (go_at_call 18;refine(HIS.out _).mono ?_;rintro e w2 ⟨rfl,ho⟩;have HC:=zAA (HC.out.trans ho);clear ho)
     go_ret
     exact zAN HMK.out (HQ.out.trans HC.out)
 ·have hsl:∀W,(Instr.sliceAt 9 (.string ⟨#[48,97,110,120,112,100,104,107,109,115,108]⟩) (some (.int .i64 8)) (some (.int .i64 9)) none).run prog W=.ok (.string S0) W:=fun W=>by rw[hS0];kernel_rfl
  clear hS0
  go_enter func101,ntmps101
  go_wp2_with fail
  go_quiet (fail)
  go_wp2_with fail
  have HQ:=zAA ((Only.refl [] w).drewN nq)
  have HV:=zAA (HV0.out.only HQ.out (by simp))
  generalize w.drewN nq=wq at *
  have HC:=zAA (Only.refl [] wq)
  go_loopw [10,9] (fun i s wr=>∃j:Nat,j<=m∧i=.int .i64 j∧s=.string (zAD (PRE++zAI (l.take j)))∧Hid (∀i,i<j->(zAE (l.getD i ByteArray.empty)).isSome=true)∧Hid (Only [] wq wr)) (fun i _ _=>m-(intOf i).toNat)
  case atStart=>exact⟨0,Nat.zero_le _,rfl,(by rw[HSP.out];simp[zAI]),zAA (fun i h=>absurd h (Nat.not_lt_zero i)),HC⟩
  case round =>
   clear HC
   obtain⟨j,hj,rfl,rfl,HK,HC⟩:=hrel
   have HJB:=zAA (show(PRE++zAI (l.take j)).length<=70000000 by have h1:=zA0 l j HK.out (by rw[<-HM.out];exact hj);have h2:=HHL.out;have h3:=HML.out;rw[List.length_append];have h4:j*65537<=1000*65537:=Nat.mul_le_mul_right _ (Nat.le_trans hj h3);omega)
   obtain⟨S,hS⟩:∃S,S=zAD (PRE++zAI (l.take j)):=⟨_,rfl⟩
   have hSs:S.size<=70000000:=by rw[hS,zAF];exact HJB.out
   rw[<-hS]
   have HS:=zAA hS
   clear hS
   by_cases hlt:j<m
   ·have hltI:(j:Int)<m:=by omega
    have hjl:j<l.length:=by rw[<-HM.out];exact hlt
    obtain⟨g,o,hAA,_,hg,hcell0⟩:=HV.out.at_.2.2.2 j _ (zCF hjl)
    first|subst hAA|cases hAA
    have HCE:=zAA (fun W (h:Only [] wq W)=>(zAX h hg (by simp)).trans hcell0)
    have HIS:=zAA (fun W=>zAd W (l.getD j ByteArray.empty) (HSZ.out _ (zCG hjl)))
    unfold zAn at HIS
    rcases Bool.eq_false_or_eq_true (zAE (l.getD j ByteArray.empty)).isSome with hq|hq
    ·have HZ:=zAA (show ∀i,i<j+1->(zAE (l.getD i ByteArray.empty)).isSome=true from fun i hi=>(Nat.lt_or_eq_of_le (Nat.le_of_lt_succ hi)).elim (HK.out i) (fun h=>by rw[h];exact hq))
     have hps:=zBJ hq
     have HJ:=zAA (zAs l j hjl)
     rw[hq]at HIS
     generalize l.getD j ByteArray.empty=part at *
     have hcell:=HCE.out _ HC.out
     clear hq hjl hcell0
     by_cases h0:j=0
     ·have hzero:¬(0:Int)<j:=by omega
      have hzeroN:¬0<j:=by omega
      obtain⟨T,hT⟩:∃T,S++part=T:=⟨_,rfl⟩
      have HTT:=zAA (show T=zAD (PRE++zAI (l.take (j+1)))by rw[<-hT,HS.out,HJ.out,if_pos h0,List.nil_append,zAr,List.append_assoc])
      have hov:¬9223372036854775807<S.size+part.size:=by omega
      clear h0
      go_wp2_with (go_at_call 18;refine(HIS.out _).mono ?_;rintro e w2 ⟨rfl,ho⟩;have HC:=zAA (HC.out.trans ho);clear ho hcell;have hcell:=HCE.out _ HC.out)
      go_roundw
      case rel=>exact⟨j+1,by omega,by go_num,by rw[HTT.out],HZ,HC⟩
      case measure=>simp[intOf];omega
     ·have hpos:(0:Int)<j:=by omega
      have hposN:0<j:=by omega
      obtain⟨U,hU⟩:∃U,S++⟨#[44]⟩=U:=⟨_,rfl⟩
      obtain⟨T,hT⟩:∃T,U++part=T:=⟨_,rfl⟩
      have hUU:U=zAD (PRE++zAI (l.take j)++[44]):=by rw[<-hU,HS.out];exact zAO _ [44]
      have HTT:=zAA (show T=zAD (PRE++zAI (l.take (j+1)))by rw[<-hT,hUU,HJ.out,if_neg h0,zAr];simp)
      have hUs:U.size<=70000001:=by rw[hUU,zAF,List.length_append];have:=HJB.out;simp only[List.length_cons,List.length_nil];omega
      have hov:¬9223372036854775807<S.size+1:=by omega
      have hov2:¬9223372036854775807<U.size+part.size:=by omega
      clear h0 hUU
      go_wp2_with (go_at_call 18;refine(HIS.out _).mono ?_;rintro e w2 ⟨rfl,ho⟩;have HC:=zAA (HC.out.trans ho);clear ho hcell;have hcell:=HCE.out _ HC.out)
      go_roundw
      case rel=>exact⟨j+1,by omega,by go_num,by rw[HTT.out],HZ,HC⟩
      case measure=>simp[intOf];omega
    ·have HMK:=zAA (HPRT.out j hjl hq)
     rw[hq]at HIS
     generalize l.getD j ByteArray.empty=part at *
     have hcell:=HCE.out _ HC.out
     clear hq hjl hcell0
     go_wp2_with (go_at_call 18;refine(HIS.out _).mono ?_;rintro e w2 ⟨rfl,ho⟩;have HC:=zAA (HC.out.trans ho);clear ho hcell;have hcell:=HCE.out _ HC.out)
     go_ret
     exact zAN HMK.out (HQ.out.trans HC.out)
   ·have hge:¬(j:Int)<m:=by omega
    obtain⟨T,hT⟩:∃T,S++⟨#[41]⟩=T:=⟨_,rfl⟩
    have hTT:T=zAD (zA5 9 n b l):=by rw[<-hT,HS.out,HTX.out,List.take_of_length_le (by have:=HM.out;omega)];exact zAO _ [41]
    have hTs:T.size<=70000001:=by rw[<-hT,HS.out,show zAD (PRE++zAI (l.take j))++⟨#[41]⟩=zAD (PRE++zAI (l.take j)++[41])from zAO _ [41],zAF,List.length_append];have:=HJB.out;simp only[List.length_cons,List.length_nil];omega
    have HIS:=zAA (fun W=>zAd W T (by unfold maxLen;omega))
    unfold zAn at HIS
    have hov:¬9223372036854775807<S.size+1:=by omega
    have hkk:∀i,i<l.length->(zAE (l.getD i ByteArray.empty)).isSome=true:=fun i hi=>HK.out i (by have:=HM.out;omega)
    rcases Bool.eq_false_or_eq_true (zAE T).isSome with hq|hq
    ·have HMK:=zAA (show zAS 9 n b l=T by rw[hTT];rw[hTT]at hq;exact HYES.out hkk hq)
     rw[hq]at HIS
     clear hq hTT hkk
     go_wp2_with (go_at_call 18;refine(HIS.out _).mono ?_;rintro e w2 ⟨rfl,ho⟩;have HC:=zAA (HC.out.trans ho);clear ho)
     go_ret
     exact zAN HMK.out (HQ.out.trans HC.out)
    ·have HMK:=zAA (show zAS 9 n b l=ByteArray.empty by rw[hTT]at hq;exact HNO.out hkk hq)
     rw[hq]at HIS
     clear hq hTT hkk
     go_wp2_with (go_at_call 18;refine(HIS.out _).mono ?_;rintro e w2 ⟨rfl,ho⟩;have HC:=zAA (HC.out.trans ho);clear ho)
     go_ret
     exact zAN HMK.out (HQ.out.trans HC.out)
 ·have hsl:∀W,(Instr.sliceAt 9 (.string ⟨#[48,97,110,120,112,100,104,107,109,115,108]⟩) (some (.int .i64 10)) (some (.int .i64 11)) none).run prog W=.ok (.string S0) W:=fun W=>by rw[hS0];kernel_rfl
  clear hS0
  go_enter func101,ntmps101
  go_wp2_with fail
  go_quiet (fail)
  go_wp2_with fail
  have HQ:=zAA ((Only.refl [] w).drewN nq)
  have HV:=zAA (HV0.out.only HQ.out (by simp))
  generalize w.drewN nq=wq at *
  have HC:=zAA (Only.refl [] wq)
  go_loopw [10,9] (fun i s wr=>∃j:Nat,j<=m∧i=.int .i64 j∧s=.string (zAD (PRE++zAI (l.take j)))∧Hid (∀i,i<j->(zAE (l.getD i ByteArray.empty)).isSome=true)∧Hid (Only [] wq wr)) (fun i _ _=>m-(intOf i).toNat)
  case atStart=>exact⟨0,Nat.zero_le _,rfl,(by rw[HSP.out];simp[zAI]),zAA (fun i h=>absurd h (Nat.not_lt_zero i)),HC⟩
  case round =>
   clear HC
   obtain⟨j,hj,rfl,rfl,HK,HC⟩:=hrel
   have HJB:=zAA (show(PRE++zAI (l.take j)).length<=70000000 by have h1:=zA0 l j HK.out (by rw[<-HM.out];exact hj);have h2:=HHL.out;have h3:=HML.out;rw[List.length_append];have h4:j*65537<=1000*65537:=Nat.mul_le_mul_right _ (Nat.le_trans hj h3);omega)
   obtain⟨S,hS⟩:∃S,S=zAD (PRE++zAI (l.take j)):=⟨_,rfl⟩
   have hSs:S.size<=70000000:=by rw[hS,zAF];exact HJB.out
   rw[<-hS]
   have HS:=zAA hS
   clear hS
   by_cases hlt:j<m
   ·have hltI:(j:Int)<m:=by omega
    have hjl:j<l.length:=by rw[<-HM.out];exact hlt
    obtain⟨g,o,hAA,_,hg,hcell0⟩:=HV.out.at_.2.2.2 j _ (zCF hjl)
    first|subst hAA|cases hAA
    have HCE:=zAA (fun W (h:Only [] wq W)=>(zAX h hg (by simp)).trans hcell0)
    have HIS:=zAA (fun W=>zAd W (l.getD j ByteArray.empty) (HSZ.out _ (zCG hjl)))
    unfold zAn at HIS
    rcases Bool.eq_false_or_eq_true (zAE (l.getD j ByteArray.empty)).isSome with hq|hq
    ·have HZ:=zAA (show ∀i,i<j+1->(zAE (l.getD i ByteArray.empty)).isSome=true from fun i hi=>(Nat.lt_or_eq_of_le (Nat.le_of_lt_succ hi)).elim (HK.out i) (fun h=>by rw[h];exact hq))
     have hps:=zBJ hq
     have HJ:=zAA (zAs l j hjl)
     rw[hq]at HIS
     generalize l.getD j ByteArray.empty=part at *
     have hcell:=HCE.out _ HC.out
     clear hq hjl hcell0
     by_cases h0:j=0
     ·have hzero:¬(0:Int)<j:=by omega
      have hzeroN:¬0<j:=by omega
      obtain⟨T,hT⟩:∃T,S++part=T:=⟨_,rfl⟩
      have HTT:=zAA (show T=zAD (PRE++zAI (l.take (j+1)))by rw[<-hT,HS.out,HJ.out,if_pos h0,List.nil_append,zAr,List.append_assoc])
      have hov:¬9223372036854775807<S.size+part.size:=by omega
      clear h0
      go_wp2_with (go_at_call 18;refine(HIS.out _).mono ?_;rintro e w2 ⟨rfl,ho⟩;have HC:=zAA (HC.out.trans ho);clear ho hcell;have hcell:=HCE.out _ HC.out)
      go_roundw
      case rel=>exact⟨j+1,by omega,by go_num,by rw[HTT.out],HZ,HC⟩
      case measure=>simp[intOf];omega
     ·have hpos:(0:Int)<j:=by omega
      have hposN:0<j:=by omega
      obtain⟨U,hU⟩:∃U,S++⟨#[44]⟩=U:=⟨_,rfl⟩
      obtain⟨T,hT⟩:∃T,U++part=T:=⟨_,rfl⟩
      have hUU:U=zAD (PRE++zAI (l.take j)++[44]):=by rw[<-hU,HS.out];exact zAO _ [44]
      have HTT:=zAA (show T=zAD (PRE++zAI (l.take (j+1)))by rw[<-hT,hUU,HJ.out,if_neg h0,zAr];simp)
      have hUs:U.size<=70000001:=by rw[hUU,zAF,List.length_append];have:=HJB.out;simp only[List.length_cons,List.length_nil];omega
      have hov:¬9223372036854775807<S.size+1:=by omega
      have hov2:¬9223372036854775807<U.size+part.size:=by omega
      clear h0 hUU
      go_wp2_with (go_at_call 18;refine(HIS.out _).mono ?_;rintro e w2 ⟨rfl,ho⟩;have HC:=zAA (HC.out.trans ho);clear ho hcell;have hcell:=HCE.out _ HC.out)
      go_roundw
      case rel=>exact⟨j+1,by omega,by go_num,by rw[HTT.out],HZ,HC⟩
      case measure=>simp[intOf];omega
    ·have HMK:=zAA (HPRT.out j hjl hq)
     rw[hq]at HIS
     generalize l.getD j ByteArray.empty=part at *
     have hcell:=HCE.out _ HC.out
     clear hq hjl hcell0
     go_wp2_with (go_at_call 18;refine(HIS.out _).mono ?_;rintro e w2 ⟨rfl,ho⟩;have HC:=zAA (HC.out.trans ho);clear ho hcell;have hcell:=HCE.out _ HC.out)
     go_ret
     exact zAN HMK.out (HQ.out.trans HC.out)
   ·have hge:¬(j:Int)<m:=by omega
    obtain⟨T,hT⟩:∃T,S++⟨#[41]⟩=T:=⟨_,rfl⟩
    have hTT:T=zAD (zA5 11 n b l):=by rw[<-hT,HS.out,HTX.out,List.take_of_length_le (by have:=HM.out;omega)];exact zAO _ [41]
    have hTs:T.size<=70000001:=by rw[<-hT,HS.out,show zAD (PRE++zAI (l.take j))++⟨#[41]⟩=zAD (PRE++zAI (l.take j)++[41])from zAO _ [41],zAF,List.length_append];have:=HJB.out;simp only[List.length_cons,List.length_nil];omega
    have HIS:=zAA (fun W=>zAd W T (by unfold maxLen;omega))
    unfold zAn at HIS
    have hov:¬9223372036854775807<S.size+1:=by omega
    have hkk:∀i,i<l.length->(zAE (l.getD i ByteArray.empty)).isSome=true:=fun i hi=>HK.out i (by have:=HM.out;omega)
    rcases Bool.eq_false_or_eq_true (zAE T).isSome with hq|hq
    ·have HMK:=zAA (show zAS 11 n b l=T by rw[hTT];rw[hTT]at hq;exact HYES.out hkk hq)
     rw[hq]at HIS
     clear hq hTT hkk
     go_wp2_with (go_at_call 18;refine(HIS.out _).mono ?_;rintro e w2 ⟨rfl,ho⟩;have HC:=zAA (HC.out.trans ho);clear ho)
     go_ret
     exact zAN HMK.out (HQ.out.trans HC.out)
    ·have HMK:=zAA (show zAS 11 n b l=ByteArray.empty by rw[hTT]at hq;exact HNO.out hkk hq)
     rw[hq]at HIS
     clear hq hTT hkk
     go_wp2_with (go_at_call 18;refine(HIS.out _).mono ?_;rintro e w2 ⟨rfl,ho⟩;have HC:=zAA (HC.out.trans ho);clear ho)
     go_ret
     exact zAN HMK.out (HQ.out.trans HC.out)

theorem zJs(k:Int)(hk:k=8∨k=10)(n:Nat)(hn:n<18446744073709551616)(bv lv:Value)(b:List UInt8)(_hbl:b.length<=100000)(l:List ByteArray)(hll:l.length<=1000)(hsz:∀p∈l,p.size<=maxLen)(w:World)
  (hv:Rd w [] lv (zAq l)) :
  Calls prog 101 #[.int .i64 k,.int .u64 n,bv,lv] w (zBS (zAS k n b l) w):=by
 have hr:1<=k∧k<=11:=by omega
 have HYES:=zAA (fun hp hs=>zC5 (k:=k) (n:=n) (b:=b) (l:=l) hr hn (fun h=>by omega) hp hs)
 have HNO:=zAA (fun hp hs=>zDn (k:=k) (n:=n) (b:=b) (l:=l) hr hn (fun h=>by omega) hp hs)
 have HPRT:=zAA (fun(i:Nat) hi h=>zDJ (k:=k) (n:=n) (b:=b) (l:=l) (i:=i) hi h)
 have HHL:=zAA (zDm k n hn (zAZ k l))
 have HTX:=zAA (zDl k n b (zAZ k l) (by omega))
 have hss:=zDD k l
 have HSZ:=zAA (show ∀p∈zAZ k l,p.size<=maxLen from fun p hp=>hsz p ((hss p).1 hp))
 have hsl0:=zDC k l
 have hso:zAZ k l=l:=zBH (by omega) l
 rw[hso]at HYES HNO HPRT HHL HTX HSZ
 obtain⟨A,cap,rfl,hc1,hc2⟩:=hv.form
 unfold maxLen at hc2
 rw[zBN]at hv hc1 ⊢
 obtain⟨m,hm⟩:∃m,m=l.length:=⟨_,rfl⟩
 have HM:=zAA hm
 have HML:=zAA (show m<=1000 by rw[hm];exact hll)
 rw[<-hm]at hv hc1 ⊢
 have HV0:=zAA hv
 obtain⟨PRE,hPRE⟩:∃P,P=zD4 k n l:=⟨_,rfl⟩
 rw[<-hPRE]at HHL HTX
 obtain⟨S0,hS0⟩:∃S,S=zAD [zCI k]:=⟨_,rfl⟩
 obtain⟨S1,hS1⟩:∃S,S=zAD [zCI k,40]:=⟨_,rfl⟩
 have e1:S0++⟨#[40]⟩=S1:=by rw[hS0,hS1];exact zAO [zCI k] [40]
 have hov1:¬9223372036854775807<S0.size+1:=by rw[hS0,zAF];simp
 have hs1:S1.size=2:=by rw[hS1,zAF];rfl
 have HPR:=zAA (fun W=>zF8 n hn W)
 unfold zBr at HPR
 obtain⟨D,hD⟩:∃D,D=zAD (Lib.decDigits n):=⟨_,rfl⟩
 rw[show(⟨(Lib.decDigits n).toArray⟩:ByteArray)=D from hD.symm]at HPR
 have hds:D.size<=20:=by rw[hD,zAF];have:=zCP n hn;omega
 obtain⟨S2,hS2⟩:∃S,S=zAD ([zCI k,40]++Lib.decDigits n):=⟨_,rfl⟩
 have e2:S1++D=S2:=by rw[hS1,hS2,hD];exact zAO _ _
 have hov2:¬9223372036854775807<S1.size+D.size:=by omega
 have hs2:S2.size<=22:=by rw[hS2,zAF,List.length_append];have:=zCP n hn;simp;omega
 obtain⟨S3,hS3⟩:∃S,S=zAD ([zCI k,40]++Lib.decDigits n++[44]):=⟨_,rfl⟩
 have e3:S2++⟨#[44]⟩=S3:=by rw[hS2,hS3];exact zAO _ [44]
 have hov3:¬9223372036854775807<S2.size+1:=by omega
 have hnb:zAK k=true:=by rcases hk with rfl|rfl<;>decide
 by_cases hm0:m=0
 ·have hz:l=[]:=List.length_eq_zero_iff.1 (by rw[<-HM.out];exact hm0)
  have HSP:=zAA (show S2=zAD PRE by rw[hS2,hPRE];unfold zD4;rw[hnb,if_pos rfl,if_pos hz];simp)
  have hpI:¬(0:Int)<m:=by omega
  have hpN:¬0<m:=by omega
  clear hv hn _hbl hll hsz hm hss hso hsl0 hS1 hPRE hr hm0 hz hD hS2 hS3 hnb
  rcases hk with rfl|rfl
  ·have hsl:∀W,(Instr.sliceAt 9 (.string ⟨#[48,97,110,120,112,100,104,107,109,115,108]⟩) (some (.int .i64 7)) (some (.int .i64 8)) none).run prog W=.ok (.string S0) W:=fun W=>by rw[hS0];kernel_rfl
   clear hS0
   go_enter func101,ntmps101
   go_wp2_with fail
   go_quiet (fail)
   go_wp2_with (go_at_call 128;refine(HPR.out _).mono ?_;rintro e w1 ⟨rfl,ho⟩;have HQ:=zAA (((Only.refl [] w).drewN nq).trans ho);clear ho)
   have HV:=zAA (HV0.out.only HQ.out (by simp))
   generalize w1=wq at *
   have HC:=zAA (Only.refl [] wq)
   go_loopw [10,9] (fun i s wr=>∃j:Nat,j<=m∧i=.int .i64 j∧s=.string (zAD (PRE++zAI (l.take j)))∧Hid (∀i,i<j->(zAE (l.getD i ByteArray.empty)).isSome=true)∧Hid (Only [] wq wr)) (fun i _ _=>m-(intOf i).toNat)
   case atStart=>exact⟨0,Nat.zero_le _,rfl,(by rw[HSP.out];simp[zAI]),zAA (fun i h=>absurd h (Nat.not_lt_zero i)),HC⟩
   case round =>
    clear HC
    obtain⟨j,hj,rfl,rfl,HK,HC⟩:=hrel
    have HJB:=zAA (show(PRE++zAI (l.take j)).length<=70000000 by have h1:=zA0 l j HK.out (by rw[<-HM.out];exact hj);have h2:=HHL.out;have h3:=HML.out;rw[List.length_append];have h4:j*65537<=1000*65537:=Nat.mul_le_mul_right _ (Nat.le_trans hj h3);omega)
    obtain⟨S,hS⟩:∃S,S=zAD (PRE++zAI (l.take j)):=⟨_,rfl⟩
    have hSs:S.size<=70000000:=by rw[hS,zAF];exact HJB.out
    rw[<-hS]
    have HS:=zAA hS
    clear hS
    by_cases hlt:j<m
    ·have hltI:(j:Int)<m:=by omega
     have hjl:j<l.length:=by rw[<-HM.out];exact hlt
     obtain⟨g,o,hAA,_,hg,hcell0⟩:=HV.out.at_.2.2.2 j _ (zCF hjl)
     first|subst hAA|cases hAA
     have HCE:=zAA (fun W (h:Only [] wq W)=>(zAX h hg (by simp)).trans hcell0)
     have HIS:=zAA (fun W=>zAd W (l.getD j ByteArray.empty) (HSZ.out _ (zCG hjl)))
     unfold zAn at HIS
     rcases Bool.eq_false_or_eq_true (zAE (l.getD j ByteArray.empty)).isSome with hq|hq
     ·have HZ:=zAA (show ∀i,i<j+1->(zAE (l.getD i ByteArray.empty)).isSome=true from fun i hi=>(Nat.lt_or_eq_of_le (Nat.le_of_lt_succ hi)).elim (HK.out i) (fun h=>by rw[h];exact hq))
      have hps:=zBJ hq
      have HJ:=zAA (zAs l j hjl)
      rw[hq]at HIS
      generalize l.getD j ByteArray.empty=part at *
      have hcell:=HCE.out _ HC.out
      clear hq hjl hcell0
      by_cases h0:j=0
      ·have hzero:¬(0:Int)<j:=by omega
       have hzeroN:¬0<j:=by omega
       obtain⟨T,hT⟩:∃T,S++part=T:=⟨_,rfl⟩
       have HTT:=zAA (show T=zAD (PRE++zAI (l.take (j+1)))by rw[<-hT,HS.out,HJ.out,if_pos h0,List.nil_append,zAr,List.append_assoc])
       have hov:¬9223372036854775807<S.size+part.size:=by omega
       clear h0
       go_wp2_with (go_at_call 18;refine(HIS.out _).mono ?_;rintro e w2 ⟨rfl,ho⟩;have HC:=zAA (HC.out.trans ho);clear ho hcell;have hcell:=HCE.out _ HC.out)
       go_roundw
       case rel=>exact⟨j+1,by omega,by go_num,by rw[HTT.out],HZ,HC⟩
       case measure=>simp[intOf];omega
      ·have hpos:(0:Int)<j:=by omega
       have hposN:0<j:=by omega
       obtain⟨U,hU⟩:∃U,S++⟨#[44]⟩=U:=⟨_,rfl⟩
       obtain⟨T,hT⟩:∃T,U++part=T:=⟨_,rfl⟩
       have hUU:U=zAD (PRE++zAI (l.take j)++[44]):=by rw[<-hU,HS.out];exact zAO _ [44]
       have HTT:=zAA (show T=zAD (PRE++zAI (l.take (j+1)))by rw[<-hT,hUU,HJ.out,if_neg h0,zAr];simp)
       have hUs:U.size<=70000001:=by rw[hUU,zAF,List.length_append];have:=HJB.out;simp only[List.length_cons,List.length_nil];omega
       have hov:¬9223372036854775807<S.size+1:=by omega
       have hov2:¬9223372036854775807<U.size+part.size:=by omega
       clear h0 hUU
       go_wp2_with (go_at_call 18;refine(HIS.out _).mono ?_;rintro e w2 ⟨rfl,ho⟩;have HC:=zAA (HC.out.trans ho);clear ho hcell;have hcell:=HCE.out _ HC.out)
       go_roundw
       case rel=>exact⟨j+1,by omega,by go_num,by rw[HTT.out],HZ,HC⟩
       case measure=>simp[intOf];omega
     ·have HMK:=zAA (HPRT.out j hjl hq)
      rw[hq]at HIS
      generalize l.getD j ByteArray.empty=part at *
      have hcell:=HCE.out _ HC.out
      clear hq hjl hcell0
      go_wp2_with (go_at_call 18;refine(HIS.out _).mono ?_;rintro e w2 ⟨rfl,ho⟩;have HC:=zAA (HC.out.trans ho);clear ho hcell;have hcell:=HCE.out _ HC.out)
      go_ret
      exact zAN HMK.out (HQ.out.trans HC.out)
    ·have hge:¬(j:Int)<m:=by omega
     obtain⟨T,hT⟩:∃T,S++⟨#[41]⟩=T:=⟨_,rfl⟩
     have hTT:T=zAD (zA5 8 n b l):=by rw[<-hT,HS.out,HTX.out,List.take_of_length_le (by have:=HM.out;omega)];exact zAO _ [41]
     have hTs:T.size<=70000001:=by rw[<-hT,HS.out,show zAD (PRE++zAI (l.take j))++⟨#[41]⟩=zAD (PRE++zAI (l.take j)++[41])from zAO _ [41],zAF,List.length_append];have:=HJB.out;simp only[List.length_cons,List.length_nil];omega
     have HIS:=zAA (fun W=>zAd W T (by unfold maxLen;omega))
     unfold zAn at HIS
     have hov:¬9223372036854775807<S.size+1:=by omega
     have hkk:∀i,i<l.length->(zAE (l.getD i ByteArray.empty)).isSome=true:=fun i hi=>HK.out i (by have:=HM.out;omega)
     rcases Bool.eq_false_or_eq_true (zAE T).isSome with hq|hq
     ·have HMK:=zAA (show zAS 8 n b l=T by rw[hTT];rw[hTT]at hq;exact HYES.out hkk hq)
      rw[hq]at HIS
      clear hq hTT hkk
      go_wp2_with (go_at_call 18;refine(HIS.out _).mono ?_;rintro e w2 ⟨rfl,ho⟩;have HC:=zAA (HC.out.trans ho);clear ho)
      go_ret
      exact zAN HMK.out (HQ.out.trans HC.out)
     ·have HMK:=zAA (show zAS 8 n b l=ByteArray.empty by rw[hTT]at hq;exact HNO.out hkk hq)
      rw[hq]at HIS
      clear hq hTT hkk
      go_wp2_with (go_at_call 18;refine(HIS.out _).mono ?_;rintro e w2 ⟨rfl,ho⟩;have HC:=zAA (HC.out.trans ho);clear ho)
      go_ret
      exact zAN HMK.out (HQ.out.trans HC.out)
  ·have hsl:∀W,(Instr.sliceAt 9 (.string ⟨#[48,97,110,120,112,100,104,107,109,115,108]⟩) (some (.int .i64 9)) (some (.int .i64 10)) none).run prog W=.ok (.string S0) W:=fun W=>by rw[hS0];kernel_rfl
   clear hS0
   go_enter func101,ntmps101
   go_wp2_with fail
   go_quiet (fail)
   go_wp2_with (go_at_call 128;refine(HPR.out _).mono ?_;rintro e w1 ⟨rfl,ho⟩;have HQ:=zAA (((Only.refl [] w).drewN nq).trans ho);clear ho)
   have HV:=zAA (HV0.out.only HQ.out (by simp))
   generalize w1=wq at *
   have HC:=zAA (Only.refl [] wq)
   go_loopw [10,9] (fun i s wr=>∃j:Nat,j<=m∧i=.int .i64 j∧s=.string (zAD (PRE++zAI (l.take j)))∧Hid (∀i,i<j->(zAE (l.getD i ByteArray.empty)).isSome=true)∧Hid (Only [] wq wr)) (fun i _ _=>m-(intOf i).toNat)
   case atStart=>exact⟨0,Nat.zero_le _,rfl,(by rw[HSP.out];simp[zAI]),zAA (fun i h=>absurd h (Nat.not_lt_zero i)),HC⟩
   case round =>
    clear HC
    obtain⟨j,hj,rfl,rfl,HK,HC⟩:=hrel
    have HJB:=zAA (show(PRE++zAI (l.take j)).length<=70000000 by have h1:=zA0 l j HK.out (by rw[<-HM.out];exact hj);have h2:=HHL.out;have h3:=HML.out;rw[List.length_append];have h4:j*65537<=1000*65537:=Nat.mul_le_mul_right _ (Nat.le_trans hj h3);omega)
    obtain⟨S,hS⟩:∃S,S=zAD (PRE++zAI (l.take j)):=⟨_,rfl⟩
    have hSs:S.size<=70000000:=by rw[hS,zAF];exact HJB.out
    rw[<-hS]
    have HS:=zAA hS
    clear hS
    by_cases hlt:j<m
    ·have hltI:(j:Int)<m:=by omega
     have hjl:j<l.length:=by rw[<-HM.out];exact hlt
     obtain⟨g,o,hAA,_,hg,hcell0⟩:=HV.out.at_.2.2.2 j _ (zCF hjl)
     first|subst hAA|cases hAA
     have HCE:=zAA (fun W (h:Only [] wq W)=>(zAX h hg (by simp)).trans hcell0)
     have HIS:=zAA (fun W=>zAd W (l.getD j ByteArray.empty) (HSZ.out _ (zCG hjl)))
     unfold zAn at HIS
     rcases Bool.eq_false_or_eq_true (zAE (l.getD j ByteArray.empty)).isSome with hq|hq
     ·have HZ:=zAA (show ∀i,i<j+1->(zAE (l.getD i ByteArray.empty)).isSome=true from fun i hi=>(Nat.lt_or_eq_of_le (Nat.le_of_lt_succ hi)).elim (HK.out i) (fun h=>by rw[h];exact hq))
      have hps:=zBJ hq
      have HJ:=zAA (zAs l j hjl)
      rw[hq]at HIS
      generalize l.getD j ByteArray.empty=part at *
      have hcell:=HCE.out _ HC.out
      clear hq hjl hcell0
      by_cases h0:j=0
      ·have hzero:¬(0:Int)<j:=by omega
       have hzeroN:¬0<j:=by omega
       obtain⟨T,hT⟩:∃T,S++part=T:=⟨_,rfl⟩
       have HTT:=zAA (show T=zAD (PRE++zAI (l.take (j+1)))by rw[<-hT,HS.out,HJ.out,if_pos h0,List.nil_append,zAr,List.append_assoc])
       have hov:¬9223372036854775807<S.size+part.size:=by omega
       clear h0
       go_wp2_with (go_at_call 18;refine(HIS.out _).mono ?_;rintro e w2 ⟨rfl,ho⟩;have HC:=zAA (HC.out.trans ho);clear ho hcell;have hcell:=HCE.out _ HC.out)
       go_roundw
       case rel=>exact⟨j+1,by omega,by go_num,by rw[HTT.out],HZ,HC⟩
       case measure=>simp[intOf];omega
      ·have hpos:(0:Int)<j:=by omega
       have hposN:0<j:=by omega
       obtain⟨U,hU⟩:∃U,S++⟨#[44]⟩=U:=⟨_,rfl⟩
       obtain⟨T,hT⟩:∃T,U++part=T:=⟨_,rfl⟩
       have hUU:U=zAD (PRE++zAI (l.take j)++[44]):=by rw[<-hU,HS.out];exact zAO _ [44]
       have HTT:=zAA (show T=zAD (PRE++zAI (l.take (j+1)))by rw[<-hT,hUU,HJ.out,if_neg h0,zAr];simp)
       have hUs:U.size<=70000001:=by rw[hUU,zAF,List.length_append];have:=HJB.out;simp only[List.length_cons,List.length_nil];omega
       have hov:¬9223372036854775807<S.size+1:=by omega
       have hov2:¬9223372036854775807<U.size+part.size:=by omega
       clear h0 hUU
       go_wp2_with (go_at_call 18;refine(HIS.out _).mono ?_;rintro e w2 ⟨rfl,ho⟩;have HC:=zAA (HC.out.trans ho);clear ho hcell;have hcell:=HCE.out _ HC.out)
       go_roundw
       case rel=>exact⟨j+1,by omega,by go_num,by rw[HTT.out],HZ,HC⟩
       case measure=>simp[intOf];omega
     ·have HMK:=zAA (HPRT.out j hjl hq)
      rw[hq]at HIS
      generalize l.getD j ByteArray.empty=part at *
      have hcell:=HCE.out _ HC.out
      clear hq hjl hcell0
      go_wp2_with (go_at_call 18;refine(HIS.out _).mono ?_;rintro e w2 ⟨rfl,ho⟩;have HC:=zAA (HC.out.trans ho);clear ho hcell;have hcell:=HCE.out _ HC.out)
      go_ret
      exact zAN HMK.out (HQ.out.trans HC.out)
    ·have hge:¬(j:Int)<m:=by omega
     obtain⟨T,hT⟩:∃T,S++⟨#[41]⟩=T:=⟨_,rfl⟩
     have hTT:T=zAD (zA5 10 n b l):=by rw[<-hT,HS.out,HTX.out,List.take_of_length_le (by have:=HM.out;omega)];exact zAO _ [41]
     have hTs:T.size<=70000001:=by rw[<-hT,HS.out,show zAD (PRE++zAI (l.take j))++⟨#[41]⟩=zAD (PRE++zAI (l.take j)++[41])from zAO _ [41],zAF,List.length_append];have:=HJB.out;simp only[List.length_cons,List.length_nil];omega
     have HIS:=zAA (fun W=>zAd W T (by unfold maxLen;omega))
     unfold zAn at HIS
     have hov:¬9223372036854775807<S.size+1:=by omega
     have hkk:∀i,i<l.length->(zAE (l.getD i ByteArray.empty)).isSome=true:=fun i hi=>HK.out i (by have:=HM.out;omega)
     rcases Bool.eq_false_or_eq_true (zAE T).isSome with hq|hq
     ·have HMK:=zAA (show zAS 10 n b l=T by rw[hTT];rw[hTT]at hq;exact HYES.out hkk hq)
      rw[hq]at HIS
      clear hq hTT hkk
      go_wp2_with (go_at_call 18;refine(HIS.out _).mono ?_;rintro e w2 ⟨rfl,ho⟩;have HC:=zAA (HC.out.trans ho);clear ho)
      go_ret
      exact zAN HMK.out (HQ.out.trans HC.out)
     ·have HMK:=zAA (show zAS 10 n b l=ByteArray.empty by rw[hTT]at hq;exact HNO.out hkk hq)
      rw[hq]at HIS
      clear hq hTT hkk
      go_wp2_with (go_at_call 18;refine(HIS.out _).mono ?_;rintro e w2 ⟨rfl,ho⟩;have HC:=zAA (HC.out.trans ho);clear ho)
      go_ret
      exact zAN HMK.out (HQ.out.trans HC.out)
 ·have hz:l≠[]:=fun h=>hm0 (by rw[HM.out,h];rfl)
  have HSP:=zAA (show S3=zAD PRE by rw[hS3,hPRE];unfold zD4;rw[hnb,if_pos rfl,if_neg hz];simp)
  have hpI:(0:Int)<m:=by omega
  have hpN:0<m:=by omega
  clear hv hn _hbl hll hsz hm hss hso hsl0 hS1 hPRE hr hm0 hz hD hS2 hS3 hnb
  rcases hk with rfl|rfl
  ·have hsl:∀W,(Instr.sliceAt 9 (.string ⟨#[48,97,110,120,112,100,104,107,109,115,108]⟩) (some (.int .i64 7)) (some (.int .i64 8)) none).run prog W=.ok (.string S0) W:=fun W=>by rw[hS0];kernel_rfl
   clear hS0
   go_enter func101,ntmps101
   go_wp2_with fail
   go_quiet (fail)
   go_wp2_with (go_at_call 128;refine(HPR.out _).mono ?_;rintro e w1 ⟨rfl,ho⟩;have HQ:=zAA (((Only.refl [] w).drewN nq).trans ho);clear ho)
   have HV:=zAA (HV0.out.only HQ.out (by simp))
   generalize w1=wq at *
   have HC:=zAA (Only.refl [] wq)
   go_loopw [10,9] (fun i s wr=>∃j:Nat,j<=m∧i=.int .i64 j∧s=.string (zAD (PRE++zAI (l.take j)))∧Hid (∀i,i<j->(zAE (l.getD i ByteArray.empty)).isSome=true)∧Hid (Only [] wq wr)) (fun i _ _=>m-(intOf i).toNat)
   case atStart=>exact⟨0,Nat.zero_le _,rfl,(by rw[HSP.out];simp[zAI]),zAA (fun i h=>absurd h (Nat.not_lt_zero i)),HC⟩
   case round =>
    clear HC
    obtain⟨j,hj,rfl,rfl,HK,HC⟩:=hrel
    have HJB:=zAA (show(PRE++zAI (l.take j)).length<=70000000 by have h1:=zA0 l j HK.out (by rw[<-HM.out];exact hj);have h2:=HHL.out;have h3:=HML.out;rw[List.length_append];have h4:j*65537<=1000*65537:=Nat.mul_le_mul_right _ (Nat.le_trans hj h3);omega)
    obtain⟨S,hS⟩:∃S,S=zAD (PRE++zAI (l.take j)):=⟨_,rfl⟩
    have hSs:S.size<=70000000:=by rw[hS,zAF];exact HJB.out
    rw[<-hS]
    have HS:=zAA hS
    clear hS
    by_cases hlt:j<m
    ·have hltI:(j:Int)<m:=by omega
     have hjl:j<l.length:=by rw[<-HM.out];exact hlt
     obtain⟨g,o,hAA,_,hg,hcell0⟩:=HV.out.at_.2.2.2 j _ (zCF hjl)
     first|subst hAA|cases hAA
     have HCE:=zAA (fun W (h:Only [] wq W)=>(zAX h hg (by simp)).trans hcell0)
     have HIS:=zAA (fun W=>zAd W (l.getD j ByteArray.empty) (HSZ.out _ (zCG hjl)))
     unfold zAn at HIS
     rcases Bool.eq_false_or_eq_true (zAE (l.getD j ByteArray.empty)).isSome with hq|hq
     ·have HZ:=zAA (show ∀i,i<j+1->(zAE (l.getD i ByteArray.empty)).isSome=true from fun i hi=>(Nat.lt_or_eq_of_le (Nat.le_of_lt_succ hi)).elim (HK.out i) (fun h=>by rw[h];exact hq))
      have hps:=zBJ hq
      have HJ:=zAA (zAs l j hjl)
      rw[hq]at HIS
      generalize l.getD j ByteArray.empty=part at *
      have hcell:=HCE.out _ HC.out
      clear hq hjl hcell0
      by_cases h0:j=0
      ·have hzero:¬(0:Int)<j:=by omega
       have hzeroN:¬0<j:=by omega
       obtain⟨T,hT⟩:∃T,S++part=T:=⟨_,rfl⟩
       have HTT:=zAA (show T=zAD (PRE++zAI (l.take (j+1)))by rw[<-hT,HS.out,HJ.out,if_pos h0,List.nil_append,zAr,List.append_assoc])
       have hov:¬9223372036854775807<S.size+part.size:=by omega
       clear h0
       go_wp2_with (go_at_call 18;refine(HIS.out _).mono ?_;rintro e w2 ⟨rfl,ho⟩;have HC:=zAA (HC.out.trans ho);clear ho hcell;have hcell:=HCE.out _ HC.out)
       go_roundw
       case rel=>exact⟨j+1,by omega,by go_num,by rw[HTT.out],HZ,HC⟩
       case measure=>simp[intOf];omega
      ·have hpos:(0:Int)<j:=by omega
       have hposN:0<j:=by omega
       obtain⟨U,hU⟩:∃U,S++⟨#[44]⟩=U:=⟨_,rfl⟩
       obtain⟨T,hT⟩:∃T,U++part=T:=⟨_,rfl⟩
       have hUU:U=zAD (PRE++zAI (l.take j)++[44]):=by rw[<-hU,HS.out];exact zAO _ [44]
       have HTT:=zAA (show T=zAD (PRE++zAI (l.take (j+1)))by rw[<-hT,hUU,HJ.out,if_neg h0,zAr];simp)
       have hUs:U.size<=70000001:=by rw[hUU,zAF,List.length_append];have:=HJB.out;simp only[List.length_cons,List.length_nil];omega
       have hov:¬9223372036854775807<S.size+1:=by omega
       have hov2:¬9223372036854775807<U.size+part.size:=by omega
       clear h0 hUU
       go_wp2_with (go_at_call 18;refine(HIS.out _).mono ?_;rintro e w2 ⟨rfl,ho⟩;have HC:=zAA (HC.out.trans ho);clear ho hcell;have hcell:=HCE.out _ HC.out)
       go_roundw
       case rel=>exact⟨j+1,by omega,by go_num,by rw[HTT.out],HZ,HC⟩
       case measure=>simp[intOf];omega
     ·have HMK:=zAA (HPRT.out j hjl hq)
      rw[hq]at HIS
      generalize l.getD j ByteArray.empty=part at *
      have hcell:=HCE.out _ HC.out
      clear hq hjl hcell0
      go_wp2_with (go_at_call 18;refine(HIS.out _).mono ?_;rintro e w2 ⟨rfl,ho⟩;have HC:=zAA (HC.out.trans ho);clear ho hcell;have hcell:=HCE.out _ HC.out)
      go_ret
      exact zAN HMK.out (HQ.out.trans HC.out)
    ·have hge:¬(j:Int)<m:=by omega
     obtain⟨T,hT⟩:∃T,S++⟨#[41]⟩=T:=⟨_,rfl⟩
     have hTT:T=zAD (zA5 8 n b l):=by rw[<-hT,HS.out,HTX.out,List.take_of_length_le (by have:=HM.out;omega)];exact zAO _ [41]
     have hTs:T.size<=70000001:=by rw[<-hT,HS.out,show zAD (PRE++zAI (l.take j))++⟨#[41]⟩=zAD (PRE++zAI (l.take j)++[41])from zAO _ [41],zAF,List.length_append];have:=HJB.out;simp only[List.length_cons,List.length_nil];omega
     have HIS:=zAA (fun W=>zAd W T (by unfold maxLen;omega))
     unfold zAn at HIS
     have hov:¬9223372036854775807<S.size+1:=by omega
     have hkk:∀i,i<l.length->(zAE (l.getD i ByteArray.empty)).isSome=true:=fun i hi=>HK.out i (by have:=HM.out;omega)
     rcases Bool.eq_false_or_eq_true (zAE T).isSome with hq|hq
     ·have HMK:=zAA (show zAS 8 n b l=T by rw[hTT];rw[hTT]at hq;exact HYES.out hkk hq)
      rw[hq]at HIS
      clear hq hTT hkk
      go_wp2_with (go_at_call 18;refine(HIS.out _).mono ?_;rintro e w2 ⟨rfl,ho⟩;have HC:=zAA (HC.out.trans ho);clear ho)
      go_ret
      exact zAN HMK.out (HQ.out.trans HC.out)
     ·have HMK:=zAA (show zAS 8 n b l=ByteArray.empty by rw[hTT]at hq;exact HNO.out hkk hq)
      rw[hq]at HIS
      clear hq hTT hkk
      go_wp2_with (go_at_call 18;refine(HIS.out _).mono ?_;rintro e w2 ⟨rfl,ho⟩;have HC:=zAA (HC.out.trans ho);clear ho)
      go_ret
      exact zAN HMK.out (HQ.out.trans HC.out)
  ·have hsl:∀W,(Instr.sliceAt 9 (.string ⟨#[48,97,110,120,112,100,104,107,109,115,108]⟩) (some (.int .i64 9)) (some (.int .i64 10)) none).run prog W=.ok (.string S0) W:=fun W=>by rw[hS0];kernel_rfl
   clear hS0
   go_enter func101,ntmps101
   go_wp2_with fail
   go_quiet (fail)
   go_wp2_with (go_at_call 128;refine(HPR.out _).mono ?_;rintro e w1 ⟨rfl,ho⟩;have HQ:=zAA (((Only.refl [] w).drewN nq).trans ho);clear ho)
   have HV:=zAA (HV0.out.only HQ.out (by simp))
   generalize w1=wq at *
   have HC:=zAA (Only.refl [] wq)
   go_loopw [10,9] (fun i s wr=>∃j:Nat,j<=m∧i=.int .i64 j∧s=.string (zAD (PRE++zAI (l.take j)))∧Hid (∀i,i<j->(zAE (l.getD i ByteArray.empty)).isSome=true)∧Hid (Only [] wq wr)) (fun i _ _=>m-(intOf i).toNat)
   case atStart=>exact⟨0,Nat.zero_le _,rfl,(by rw[HSP.out];simp[zAI]),zAA (fun i h=>absurd h (Nat.not_lt_zero i)),HC⟩
   case round =>
    clear HC
    obtain⟨j,hj,rfl,rfl,HK,HC⟩:=hrel
    have HJB:=zAA (show(PRE++zAI (l.take j)).length<=70000000 by have h1:=zA0 l j HK.out (by rw[<-HM.out];exact hj);have h2:=HHL.out;have h3:=HML.out;rw[List.length_append];have h4:j*65537<=1000*65537:=Nat.mul_le_mul_right _ (Nat.le_trans hj h3);omega)
    obtain⟨S,hS⟩:∃S,S=zAD (PRE++zAI (l.take j)):=⟨_,rfl⟩
    have hSs:S.size<=70000000:=by rw[hS,zAF];exact HJB.out
    rw[<-hS]
    have HS:=zAA hS
    clear hS
    by_cases hlt:j<m
    ·have hltI:(j:Int)<m:=by omega
     have hjl:j<l.length:=by rw[<-HM.out];exact hlt
     obtain⟨g,o,hAA,_,hg,hcell0⟩:=HV.out.at_.2.2.2 j _ (zCF hjl)
     first|subst hAA|cases hAA
     have HCE:=zAA (fun W (h:Only [] wq W)=>(zAX h hg (by simp)).trans hcell0)
     have HIS:=zAA (fun W=>zAd W (l.getD j ByteArray.empty) (HSZ.out _ (zCG hjl)))
     unfold zAn at HIS
     rcases Bool.eq_false_or_eq_true (zAE (l.getD j ByteArray.empty)).isSome with hq|hq
     ·have HZ:=zAA (show ∀i,i<j+1->(zAE (l.getD i ByteArray.empty)).isSome=true from fun i hi=>(Nat.lt_or_eq_of_le (Nat.le_of_lt_succ hi)).elim (HK.out i) (fun h=>by rw[h];exact hq))
      have hps:=zBJ hq
      have HJ:=zAA (zAs l j hjl)
      rw[hq]at HIS
      generalize l.getD j ByteArray.empty=part at *
      have hcell:=HCE.out _ HC.out
      clear hq hjl hcell0
      by_cases h0:j=0
      ·have hzero:¬(0:Int)<j:=by omega
       have hzeroN:¬0<j:=by omega
       obtain⟨T,hT⟩:∃T,S++part=T:=⟨_,rfl⟩
       have HTT:=zAA (show T=zAD (PRE++zAI (l.take (j+1)))by rw[<-hT,HS.out,HJ.out,if_pos h0,List.nil_append,zAr,List.append_assoc])
       have hov:¬9223372036854775807<S.size+part.size:=by omega
       clear h0
       go_wp2_with (go_at_call 18;refine(HIS.out _).mono ?_;rintro e w2 ⟨rfl,ho⟩;have HC:=zAA (HC.out.trans ho);clear ho hcell;have hcell:=HCE.out _ HC.out)
       go_roundw
       case rel=>exact⟨j+1,by omega,by go_num,by rw[HTT.out],HZ,HC⟩
       case measure=>simp[intOf];omega
      ·have hpos:(0:Int)<j:=by omega
       have hposN:0<j:=by omega
       obtain⟨U,hU⟩:∃U,S++⟨#[44]⟩=U:=⟨_,rfl⟩
       obtain⟨T,hT⟩:∃T,U++part=T:=⟨_,rfl⟩
       have hUU:U=zAD (PRE++zAI (l.take j)++[44]):=by rw[<-hU,HS.out];exact zAO _ [44]
       have HTT:=zAA (show T=zAD (PRE++zAI (l.take (j+1)))by rw[<-hT,hUU,HJ.out,if_neg h0,zAr];simp)
       have hUs:U.size<=70000001:=by rw[hUU,zAF,List.length_append];have:=HJB.out;simp only[List.length_cons,List.length_nil];omega
       have hov:¬9223372036854775807<S.size+1:=by omega
       have hov2:¬9223372036854775807<U.size+part.size:=by omega
       clear h0 hUU
       go_wp2_with (go_at_call 18;refine(HIS.out _).mono ?_;rintro e w2 ⟨rfl,ho⟩;have HC:=zAA (HC.out.trans ho);clear ho hcell;have hcell:=HCE.out _ HC.out)
       go_roundw
       case rel=>exact⟨j+1,by omega,by go_num,by rw[HTT.out],HZ,HC⟩
       case measure=>simp[intOf];omega
     ·have HMK:=zAA (HPRT.out j hjl hq)
      rw[hq]at HIS
      generalize l.getD j ByteArray.empty=part at *
      have hcell:=HCE.out _ HC.out
      clear hq hjl hcell0
      go_wp2_with (go_at_call 18;refine(HIS.out _).mono ?_;rintro e w2 ⟨rfl,ho⟩;have HC:=zAA (HC.out.trans ho);clear ho hcell;have hcell:=HCE.out _ HC.out)
      go_ret
      exact zAN HMK.out (HQ.out.trans HC.out)
    ·have hge:¬(j:Int)<m:=by omega
     obtain⟨T,hT⟩:∃T,S++⟨#[41]⟩=T:=⟨_,rfl⟩
     have hTT:T=zAD (zA5 10 n b l):=by rw[<-hT,HS.out,HTX.out,List.take_of_length_le (by have:=HM.out;omega)];exact zAO _ [41]
     have hTs:T.size<=70000001:=by rw[<-hT,HS.out,show zAD (PRE++zAI (l.take j))++⟨#[41]⟩=zAD (PRE++zAI (l.take j)++[41])from zAO _ [41],zAF,List.length_append];have:=HJB.out;simp only[List.length_cons,List.length_nil];omega
     have HIS:=zAA (fun W=>zAd W T (by unfold maxLen;omega))
     unfold zAn at HIS
     have hov:¬9223372036854775807<S.size+1:=by omega
     have hkk:∀i,i<l.length->(zAE (l.getD i ByteArray.empty)).isSome=true:=fun i hi=>HK.out i (by have:=HM.out;omega)
     rcases Bool.eq_false_or_eq_true (zAE T).isSome with hq|hq
     ·have HMK:=zAA (show zAS 10 n b l=T by rw[hTT];rw[hTT]at hq;exact HYES.out hkk hq)
      rw[hq]at HIS
      clear hq hTT hkk
      go_wp2_with (go_at_call 18;refine(HIS.out _).mono ?_;rintro e w2 ⟨rfl,ho⟩;have HC:=zAA (HC.out.trans ho);clear ho)
      go_ret
      exact zAN HMK.out (HQ.out.trans HC.out)
     ·have HMK:=zAA (show zAS 10 n b l=ByteArray.empty by rw[hTT]at hq;exact HNO.out hkk hq)
      rw[hq]at HIS
      clear hq hTT hkk
      go_wp2_with (go_at_call 18;refine(HIS.out _).mono ?_;rintro e w2 ⟨rfl,ho⟩;have HC:=zAA (HC.out.trans ho);clear ho)
      go_ret
      exact zAN HMK.out (HQ.out.trans HC.out)

theorem zJt(k:Int)(hk:k=6)(n:Nat)(hn:n<18446744073709551616)(bv lv:Value)(b:List UInt8)(_hbl:b.length<=100000)(l:List ByteArray)(hll:l.length<=1000)(hw:¬zC1 k l)(hsz:∀p∈l,p.size<=maxLen)(w:World)
  (hv:Rd w [] lv (zAq l)) :
  Calls prog 101 #[.int .i64 k,.int .u64 n,bv,lv] w (zBS (zAS k n b l) w):=by
 have hr:1<=k∧k<=11:=by omega
 have HYES:=zAA (fun hp hs=>zC5 (k:=k) (n:=n) (b:=b) (l:=l) hr hn (fun h=>by omega) hp hs)
 have HNO:=zAA (fun hp hs=>zDn (k:=k) (n:=n) (b:=b) (l:=l) hr hn (fun h=>by omega) hp hs)
 have HPRT:=zAA (fun(i:Nat) hi h=>zDJ (k:=k) (n:=n) (b:=b) (l:=l) (i:=i) hi h)
 have HHL:=zAA (zDm k n hn (zAZ k l))
 have HTX:=zAA (zDl k n b (zAZ k l) (by omega))
 have hss:=zDD k l
 have HSZ:=zAA (show ∀p∈zAZ k l,p.size<=maxLen from fun p hp=>hsz p ((hss p).1 hp))
 have hsl0:=zDC k l
 have hso:zAZ k l=l:=by unfold zAZ;rw[if_neg hw]
 rw[hso]at HYES HNO HPRT HHL HTX HSZ
 obtain⟨A,cap,rfl,hc1,hc2⟩:=hv.form
 unfold maxLen at hc2
 rw[zBN]at hv hc1 ⊢
 obtain⟨m,hm⟩:∃m,m=l.length:=⟨_,rfl⟩
 have HM:=zAA hm
 have HML:=zAA (show m<=1000 by rw[hm];exact hll)
 rw[<-hm]at hv hc1 ⊢
 have HV0:=zAA hv
 obtain⟨PRE,hPRE⟩:∃P,P=zD4 k n l:=⟨_,rfl⟩
 rw[<-hPRE]at HHL HTX
 obtain⟨S0,hS0⟩:∃S,S=zAD [zCI k]:=⟨_,rfl⟩
 obtain⟨S1,hS1⟩:∃S,S=zAD [zCI k,40]:=⟨_,rfl⟩
 have e1:S0++⟨#[40]⟩=S1:=by rw[hS0,hS1];exact zAO [zCI k] [40]
 have hov1:¬9223372036854775807<S0.size+1:=by rw[hS0,zAF];simp
 have hs1:S1.size=2:=by rw[hS1,zAF];rfl
 have HSP:=zAA (show S1=zAD PRE by rw[hS1,hPRE];unfold zD4;rw[show zAK k=false by rw[hk];decide,if_neg (by decide)])
 by_cases h2:m=2
 ·obtain⟨p,q,hpq⟩:=zHl (l:=l) (by rw[<-HM.out];exact h2)
  obtain⟨g0,o0,hA,_,hcell00⟩:=zEl (show Rd w [] (.slice A m cap) (zAq [p,q])by rw[<-hpq];exact HV0.out) (by simp)
  subst hA
  have d0:w.cell? ⟨g0,o0,none⟩=some (.string p):=hcell00 0 (by simp)
  have d1:w.cell? ⟨g0,o0+1,none⟩=some (.string q):=hcell00 1 (by simp)
  have hgt:gtB p q=false:=by
   rw[Bool.eq_false_iff]
   intro h
   rw[hpq]at hw
   exact hw ⟨hk,rfl,h⟩
  unfold gtB at hgt
  clear hv hn _hbl hll hsz hm hss hso hsl0 hS1 hPRE hr hw hpq hcell00
  subst hk h2
  have hsl:∀W,(Instr.sliceAt 9 (.string ⟨#[48,97,110,120,112,100,104,107,109,115,108]⟩) (some (.int .i64 5)) (some (.int .i64 6)) none).run prog W=.ok (.string S0) W:=fun W=>by rw[hS0];kernel_rfl
  clear hS0
  go_enter func101,ntmps101
  go_wp2_with fail
  go_quiet (fail)
  go_wp2_with fail
  have HQ:=zAA ((Only.refl [] w).drewN nq)
  have HV:=zAA (HV0.out.only HQ.out (by simp))
  generalize w.drewN nq=wq at *
  clear d0 d1
  have HC:=zAA (Only.refl [] wq)
  go_loopw [10,9] (fun i s wr=>∃j:Nat,j<=2∧i=.int .i64 j∧s=.string (zAD (PRE++zAI (l.take j)))∧Hid (∀i,i<j->(zAE (l.getD i ByteArray.empty)).isSome=true)∧Hid (Only [] wq wr)) (fun i _ _=>2-(intOf i).toNat)
  case atStart=>exact⟨0,Nat.zero_le _,rfl,(by rw[HSP.out];simp[zAI]),zAA (fun i h=>absurd h (Nat.not_lt_zero i)),HC⟩
  case round =>
   clear HC
   obtain⟨j,hj,rfl,rfl,HK,HC⟩:=hrel
   have HJB:=zAA (show(PRE++zAI (l.take j)).length<=70000000 by have h1:=zA0 l j HK.out (by rw[<-HM.out];exact hj);have h2:=HHL.out;have h3:=HML.out;rw[List.length_append];have h4:j*65537<=1000*65537:=Nat.mul_le_mul_right _ (Nat.le_trans hj h3);omega)
   obtain⟨S,hS⟩:∃S,S=zAD (PRE++zAI (l.take j)):=⟨_,rfl⟩
   have hSs:S.size<=70000000:=by rw[hS,zAF];exact HJB.out
   rw[<-hS]
   have HS:=zAA hS
   clear hS
   by_cases hlt:j<2
   ·have hltI:(j:Int)<2:=by omega
    have hjl:j<l.length:=by rw[<-HM.out];exact hlt
    obtain⟨g,o,hAA,_,hg,hcell0⟩:=HV.out.at_.2.2.2 j _ (zCF hjl)
    first|subst hAA|cases hAA
    have HCE:=zAA (fun W (h:Only [] wq W)=>(zAX h hg (by simp)).trans hcell0)
    have HIS:=zAA (fun W=>zAd W (l.getD j ByteArray.empty) (HSZ.out _ (zCG hjl)))
    unfold zAn at HIS
    rcases Bool.eq_false_or_eq_true (zAE (l.getD j ByteArray.empty)).isSome with hq|hq
    ·have HZ:=zAA (show ∀i,i<j+1->(zAE (l.getD i ByteArray.empty)).isSome=true from fun i hi=>(Nat.lt_or_eq_of_le (Nat.le_of_lt_succ hi)).elim (HK.out i) (fun h=>by rw[h];exact hq))
     have hps:=zBJ hq
     have HJ:=zAA (zAs l j hjl)
     rw[hq]at HIS
     generalize l.getD j ByteArray.empty=part at *
     have hcell:=HCE.out _ HC.out
     clear hq hjl hcell0
     by_cases h0:j=0
     ·have hzero:¬(0:Int)<j:=by omega
      have hzeroN:¬0<j:=by omega
      obtain⟨T,hT⟩:∃T,S++part=T:=⟨_,rfl⟩
      have HTT:=zAA (show T=zAD (PRE++zAI (l.take (j+1)))by rw[<-hT,HS.out,HJ.out,if_pos h0,List.nil_append,zAr,List.append_assoc])
      have hov:¬9223372036854775807<S.size+part.size:=by omega
      clear h0
      go_wp2_with (go_at_call 18;refine(HIS.out _).mono ?_;rintro e w2 ⟨rfl,ho⟩;have HC:=zAA (HC.out.trans ho);clear ho hcell;have hcell:=HCE.out _ HC.out)
      go_roundw
      case rel=>exact⟨j+1,by omega,by go_num,by rw[HTT.out],HZ,HC⟩
      case measure=>simp[intOf];omega
     ·have hpos:(0:Int)<j:=by omega
      have hposN:0<j:=by omega
      obtain⟨U,hU⟩:∃U,S++⟨#[44]⟩=U:=⟨_,rfl⟩
      obtain⟨T,hT⟩:∃T,U++part=T:=⟨_,rfl⟩
      have hUU:U=zAD (PRE++zAI (l.take j)++[44]):=by rw[<-hU,HS.out];exact zAO _ [44]
      have HTT:=zAA (show T=zAD (PRE++zAI (l.take (j+1)))by rw[<-hT,hUU,HJ.out,if_neg h0,zAr];simp)
      have hUs:U.size<=70000001:=by rw[hUU,zAF,List.length_append];have:=HJB.out;simp only[List.length_cons,List.length_nil];omega
      have hov:¬9223372036854775807<S.size+1:=by omega
      have hov2:¬9223372036854775807<U.size+part.size:=by omega
      clear h0 hUU
      go_wp2_with (go_at_call 18;refine(HIS.out _).mono ?_;rintro e w2 ⟨rfl,ho⟩;have HC:=zAA (HC.out.trans ho);clear ho hcell;have hcell:=HCE.out _ HC.out)
      go_roundw
      case rel=>exact⟨j+1,by omega,by go_num,by rw[HTT.out],HZ,HC⟩
      case measure=>simp[intOf];omega
    ·have HMK:=zAA (HPRT.out j hjl hq)
     rw[hq]at HIS
     generalize l.getD j ByteArray.empty=part at *
     have hcell:=HCE.out _ HC.out
     clear hq hjl hcell0
     go_wp2_with (go_at_call 18;refine(HIS.out _).mono ?_;rintro e w2 ⟨rfl,ho⟩;have HC:=zAA (HC.out.trans ho);clear ho hcell;have hcell:=HCE.out _ HC.out)
     go_ret
     exact zAN HMK.out (HQ.out.trans HC.out)
   ·have hge:¬(j:Int)<2:=by omega
    obtain⟨T,hT⟩:∃T,S++⟨#[41]⟩=T:=⟨_,rfl⟩
    have hTT:T=zAD (zA5 6 n b l):=by rw[<-hT,HS.out,HTX.out,List.take_of_length_le (by have:=HM.out;omega)];exact zAO _ [41]
    have hTs:T.size<=70000001:=by rw[<-hT,HS.out,show zAD (PRE++zAI (l.take j))++⟨#[41]⟩=zAD (PRE++zAI (l.take j)++[41])from zAO _ [41],zAF,List.length_append];have:=HJB.out;simp only[List.length_cons,List.length_nil];omega
    have HIS:=zAA (fun W=>zAd W T (by unfold maxLen;omega))
    unfold zAn at HIS
    have hov:¬9223372036854775807<S.size+1:=by omega
    have hkk:∀i,i<l.length->(zAE (l.getD i ByteArray.empty)).isSome=true:=fun i hi=>HK.out i (by have:=HM.out;omega)
    rcases Bool.eq_false_or_eq_true (zAE T).isSome with hq|hq
    ·have HMK:=zAA (show zAS 6 n b l=T by rw[hTT];rw[hTT]at hq;exact HYES.out hkk hq)
     rw[hq]at HIS
     clear hq hTT hkk
     go_wp2_with (go_at_call 18;refine(HIS.out _).mono ?_;rintro e w2 ⟨rfl,ho⟩;have HC:=zAA (HC.out.trans ho);clear ho)
     go_ret
     exact zAN HMK.out (HQ.out.trans HC.out)
    ·have HMK:=zAA (show zAS 6 n b l=ByteArray.empty by rw[hTT]at hq;exact HNO.out hkk hq)
     rw[hq]at HIS
     clear hq hTT hkk
     go_wp2_with (go_at_call 18;refine(HIS.out _).mono ?_;rintro e w2 ⟨rfl,ho⟩;have HC:=zAA (HC.out.trans ho);clear ho)
     go_ret
     exact zAN HMK.out (HQ.out.trans HC.out)
 ·have h2I:((m:Int)==2)=false:=by rw[beq_eq_false_iff_ne];omega
  clear hv hn _hbl hll hsz hm hss hso hsl0 hS1 hPRE hr hw h2
  subst hk
  have hsl:∀W,(Instr.sliceAt 9 (.string ⟨#[48,97,110,120,112,100,104,107,109,115,108]⟩) (some (.int .i64 5)) (some (.int .i64 6)) none).run prog W=.ok (.string S0) W:=fun W=>by rw[hS0];kernel_rfl
  clear hS0
  go_enter func101,ntmps101
  go_wp2_with fail
  go_quiet (fail)
  go_wp2_with fail
  have HQ:=zAA ((Only.refl [] w).drewN nq)
  have HV:=zAA (HV0.out.only HQ.out (by simp))
  generalize w.drewN nq=wq at *
  have HC:=zAA (Only.refl [] wq)
  go_loopw [10,9] (fun i s wr=>∃j:Nat,j<=m∧i=.int .i64 j∧s=.string (zAD (PRE++zAI (l.take j)))∧Hid (∀i,i<j->(zAE (l.getD i ByteArray.empty)).isSome=true)∧Hid (Only [] wq wr)) (fun i _ _=>m-(intOf i).toNat)
  case atStart=>exact⟨0,Nat.zero_le _,rfl,(by rw[HSP.out];simp[zAI]),zAA (fun i h=>absurd h (Nat.not_lt_zero i)),HC⟩
  case round =>
   clear HC
   obtain⟨j,hj,rfl,rfl,HK,HC⟩:=hrel
   have HJB:=zAA (show(PRE++zAI (l.take j)).length<=70000000 by have h1:=zA0 l j HK.out (by rw[<-HM.out];exact hj);have h2:=HHL.out;have h3:=HML.out;rw[List.length_append];have h4:j*65537<=1000*65537:=Nat.mul_le_mul_right _ (Nat.le_trans hj h3);omega)
   obtain⟨S,hS⟩:∃S,S=zAD (PRE++zAI (l.take j)):=⟨_,rfl⟩
   have hSs:S.size<=70000000:=by rw[hS,zAF];exact HJB.out
   rw[<-hS]
   have HS:=zAA hS
   clear hS
   by_cases hlt:j<m
   ·have hltI:(j:Int)<m:=by omega
    have hjl:j<l.length:=by rw[<-HM.out];exact hlt
    obtain⟨g,o,hAA,_,hg,hcell0⟩:=HV.out.at_.2.2.2 j _ (zCF hjl)
    first|subst hAA|cases hAA
    have HCE:=zAA (fun W (h:Only [] wq W)=>(zAX h hg (by simp)).trans hcell0)
    have HIS:=zAA (fun W=>zAd W (l.getD j ByteArray.empty) (HSZ.out _ (zCG hjl)))
    unfold zAn at HIS
    rcases Bool.eq_false_or_eq_true (zAE (l.getD j ByteArray.empty)).isSome with hq|hq
    ·have HZ:=zAA (show ∀i,i<j+1->(zAE (l.getD i ByteArray.empty)).isSome=true from fun i hi=>(Nat.lt_or_eq_of_le (Nat.le_of_lt_succ hi)).elim (HK.out i) (fun h=>by rw[h];exact hq))
     have hps:=zBJ hq
     have HJ:=zAA (zAs l j hjl)
     rw[hq]at HIS
     generalize l.getD j ByteArray.empty=part at *
     have hcell:=HCE.out _ HC.out
     clear hq hjl hcell0
     by_cases h0:j=0
     ·have hzero:¬(0:Int)<j:=by omega
      have hzeroN:¬0<j:=by omega
      obtain⟨T,hT⟩:∃T,S++part=T:=⟨_,rfl⟩
      have HTT:=zAA (show T=zAD (PRE++zAI (l.take (j+1)))by rw[<-hT,HS.out,HJ.out,if_pos h0,List.nil_append,zAr,List.append_assoc])
      have hov:¬9223372036854775807<S.size+part.size:=by omega
      clear h0
      go_wp2_with (go_at_call 18;refine(HIS.out _).mono ?_;rintro e w2 ⟨rfl,ho⟩;have HC:=zAA (HC.out.trans ho);clear ho hcell;have hcell:=HCE.out _ HC.out)
      go_roundw
      case rel=>exact⟨j+1,by omega,by go_num,by rw[HTT.out],HZ,HC⟩
      case measure=>simp[intOf];omega
     ·have hpos:(0:Int)<j:=by omega
      have hposN:0<j:=by omega
      obtain⟨U,hU⟩:∃U,S++⟨#[44]⟩=U:=⟨_,rfl⟩
      obtain⟨T,hT⟩:∃T,U++part=T:=⟨_,rfl⟩
      have hUU:U=zAD (PRE++zAI (l.take j)++[44]):=by rw[<-hU,HS.out];exact zAO _ [44]
      have HTT:=zAA (show T=zAD (PRE++zAI (l.take (j+1)))by rw[<-hT,hUU,HJ.out,if_neg h0,zAr];simp)
      have hUs:U.size<=70000001:=by rw[hUU,zAF,List.length_append];have:=HJB.out;simp only[List.length_cons,List.length_nil];omega
      have hov:¬9223372036854775807<S.size+1:=by omega
      have hov2:¬9223372036854775807<U.size+part.size:=by omega
      clear h0 hUU
      go_wp2_with (go_at_call 18;refine(HIS.out _).mono ?_;rintro e w2 ⟨rfl,ho⟩;have HC:=zAA (HC.out.trans ho);clear ho hcell;have hcell:=HCE.out _ HC.out)
      go_roundw
      case rel=>exact⟨j+1,by omega,by go_num,by rw[HTT.out],HZ,HC⟩
      case measure=>simp[intOf];omega
    ·have HMK:=zAA (HPRT.out j hjl hq)
     rw[hq]at HIS
     generalize l.getD j ByteArray.empty=part at *
     have hcell:=HCE.out _ HC.out
     clear hq hjl hcell0
     go_wp2_with (go_at_call 18;refine(HIS.out _).mono ?_;rintro e w2 ⟨rfl,ho⟩;have HC:=zAA (HC.out.trans ho);clear ho hcell;have hcell:=HCE.out _ HC.out)
     go_ret
     exact zAN HMK.out (HQ.out.trans HC.out)
   ·have hge:¬(j:Int)<m:=by omega
    obtain⟨T,hT⟩:∃T,S++⟨#[41]⟩=T:=⟨_,rfl⟩
    have hTT:T=zAD (zA5 6 n b l):=by rw[<-hT,HS.out,HTX.out,List.take_of_length_le (by have:=HM.out;omega)];exact zAO _ [41]
    have hTs:T.size<=70000001:=by rw[<-hT,HS.out,show zAD (PRE++zAI (l.take j))++⟨#[41]⟩=zAD (PRE++zAI (l.take j)++[41])from zAO _ [41],zAF,List.length_append];have:=HJB.out;simp only[List.length_cons,List.length_nil];omega
    have HIS:=zAA (fun W=>zAd W T (by unfold maxLen;omega))
    unfold zAn at HIS
    have hov:¬9223372036854775807<S.size+1:=by omega
    have hkk:∀i,i<l.length->(zAE (l.getD i ByteArray.empty)).isSome=true:=fun i hi=>HK.out i (by have:=HM.out;omega)
    rcases Bool.eq_false_or_eq_true (zAE T).isSome with hq|hq
    ·have HMK:=zAA (show zAS 6 n b l=T by rw[hTT];rw[hTT]at hq;exact HYES.out hkk hq)
     rw[hq]at HIS
     clear hq hTT hkk
     go_wp2_with (go_at_call 18;refine(HIS.out _).mono ?_;rintro e w2 ⟨rfl,ho⟩;have HC:=zAA (HC.out.trans ho);clear ho)
     go_ret
     exact zAN HMK.out (HQ.out.trans HC.out)
    ·have HMK:=zAA (show zAS 6 n b l=ByteArray.empty by rw[hTT]at hq;exact HNO.out hkk hq)
     rw[hq]at HIS
     clear hq hTT hkk
     go_wp2_with (go_at_call 18;refine(HIS.out _).mono ?_;rintro e w2 ⟨rfl,ho⟩;have HC:=zAA (HC.out.trans ho);clear ho)
     go_ret
     exact zAN HMK.out (HQ.out.trans HC.out)

theorem zG3(n:Nat)(hn:n<18446744073709551616)(bv lv:Value)(b:List UInt8)(p q:ByteArray)(hsz:∀x∈[p,q],x.size<=maxLen)(hgt:gtB p q=true)(w:World)
  (hv:Rd w [] lv (zAq [p,q])) :
  Calls prog 101 #[.int .i64 6,.int .u64 n,bv,lv] w (zBS (zAS 6 n b [p,q]) w):=by
 have hr:1<=(6:Int)∧(6:Int)<=11:=by omega
 have hso:zAZ 6 [p,q]=[q,p]:=by unfold zAZ;rw[if_pos (show zC1 6 [p,q]from⟨rfl,rfl,hgt⟩)];rfl
 have HYES:=zAA (fun hp hs=>zC5 (k:=6) (n:=n) (b:=b) (l:=[p,q]) hr hn (fun h=>by omega) hp hs)
 have HNO:=zAA (fun hp hs=>zDn (k:=6) (n:=n) (b:=b) (l:=[p,q]) hr hn (fun h=>by omega) hp hs)
 have HPRT:=zAA (fun(i:Nat) hi h=>zDJ (k:=6) (n:=n) (b:=b) (l:=[p,q]) (i:=i) hi h)
 have HHL:=zAA (zDm 6 n hn [q,p])
 have HTX:=zAA (zDl 6 n b [q,p] (by omega))
 rw[hso]at HYES HNO HPRT
 have HSZ:=zAA (show ∀x∈[q,p],x.size<=maxLen from fun x hx=>hsz x (by simp at hx ⊢;rcases hx with h|h<;>simp[h]))
 obtain⟨A,cap,rfl,hc1,hc2⟩:=hv.form
 unfold maxLen at hc2
 obtain⟨g0,o0,rfl,_,hcell00⟩:=zEl hv (by simp)
 have d0:w.cell? ⟨g0,o0,none⟩=some (.string p):=hcell00 0 (by simp)
 have d1:w.cell? ⟨g0,o0+1,none⟩=some (.string q):=hcell00 1 (by simp)
 rw[show(zAq [p,q]).length=2 from rfl]at hc1 ⊢
 have HV1:=zAA (zDT w 9 [] (zAq [q,p]) (by simp) (by unfold maxLen;simp[zAq]))
 have al:=al_
 obtain⟨PRE,hPRE⟩:∃P,P=zD4 6 n [q,p]:=⟨_,rfl⟩
 rw[<-hPRE]at HHL HTX
 obtain⟨S0,hS0⟩:∃S,S=zAD [zCI 6]:=⟨_,rfl⟩
 obtain⟨S1,hS1⟩:∃S,S=zAD [zCI 6,40]:=⟨_,rfl⟩
 have e1:S0++⟨#[40]⟩=S1:=by rw[hS0,hS1];exact zAO [zCI 6] [40]
 have hov1:¬9223372036854775807<S0.size+1:=by rw[hS0,zAF];simp
 have hs1:S1.size=2:=by rw[hS1,zAF];rfl
 have HSP:=zAA (show S1=zAD PRE by rw[hS1,hPRE];unfold zD4;rw[show zAK 6=false by decide,if_neg (by decide)])
 have HM:=zAA (show 2=[q,p].length from rfl)
 have HML:=zAA (show 2<=1000 by omega)
 unfold gtB at hgt
 have hsl:∀W,(Instr.sliceAt 9 (.string ⟨#[48,97,110,120,112,100,104,107,109,115,108]⟩) (some (.int .i64 5)) (some (.int .i64 6)) none).run prog W=.ok (.string S0) W:=fun W=>by rw[hS0];kernel_rfl
 clear hv hn hsz hso hS1 hPRE hr hcell00 hS0
 go_enter func101,ntmps101
 go_wp2_with fail
 go_quiet (fail)
 go_wp2_with fail
 go_region
 go_wp2_with fail
 have HQ:=zAA (((Only.refl [] w).alloc (.cells #[.string q,.string p] 9)).drewN (nq+1))
 have HV:=zAA (show Rd ((w.alloc (.cells #[.string q,.string p] 9)).drewN (nq+1)) [] (.slice (some ⟨w.heap.size,0,none⟩) 2 2) (zAq [q,p])from HV1.out.only ((Only.refl [] _).drewN (nq+1)) (by simp))
 generalize (w.alloc (.cells #[.string q,.string p] 9)).drewN (nq+1)=wq at *
 generalize hgG:w.heap.size=G at *
 clear d0 d1 al hgG HV1
 have HC:=zAA (Only.refl [] wq)
 go_loopw [10,9] (fun i s wr=>∃j:Nat,j<=2∧i=.int .i64 j∧s=.string (zAD (PRE++zAI ([q,p].take j)))∧Hid (∀i,i<j->(zAE ([q,p].getD i ByteArray.empty)).isSome=true)∧Hid (Only [] wq wr)) (fun i _ _=>2-(intOf i).toNat)
 case atStart=>exact⟨0,Nat.zero_le _,rfl,(by rw[HSP.out];simp[zAI]),zAA (fun i h=>absurd h (Nat.not_lt_zero i)),HC⟩
 case round =>
  clear HC
  obtain⟨j,hj,rfl,rfl,HK,HC⟩:=hrel
  have HJB:=zAA (show(PRE++zAI ([q,p].take j)).length<=70000000 by have h1:=zA0 [q,p] j HK.out (by rw[<-HM.out];exact hj);have h2:=HHL.out;have h3:=HML.out;rw[List.length_append];have h4:j*65537<=1000*65537:=Nat.mul_le_mul_right _ (Nat.le_trans hj h3);omega)
  obtain⟨S,hS⟩:∃S,S=zAD (PRE++zAI ([q,p].take j)):=⟨_,rfl⟩
  have hSs:S.size<=70000000:=by rw[hS,zAF];exact HJB.out
  rw[<-hS]
  have HS:=zAA hS
  clear hS
  by_cases hlt:j<2
  ·have hltI:(j:Int)<2:=by omega
   have hjl:j<[q,p].length:=by rw[<-HM.out];exact hlt
   obtain⟨g,o,hAA,_,hg,hcell0⟩:=HV.out.at_.2.2.2 j _ (zCF hjl)
   (first|subst hAA|cases hAA);rw[Nat.zero_add]at hcell0
   have HCE:=zAA (fun W (h:Only [] wq W)=>(zAX h hg (by simp)).trans hcell0)
   have HIS:=zAA (fun W=>zAd W ([q,p].getD j ByteArray.empty) (HSZ.out _ (zCG hjl)))
   unfold zAn at HIS
   rcases Bool.eq_false_or_eq_true (zAE ([q,p].getD j ByteArray.empty)).isSome with hq|hq
   ·have HZ:=zAA (show ∀i,i<j+1->(zAE ([q,p].getD i ByteArray.empty)).isSome=true from fun i hi=>(Nat.lt_or_eq_of_le (Nat.le_of_lt_succ hi)).elim (HK.out i) (fun h=>by rw[h];exact hq))
    have hps:=zBJ hq
    have HJ:=zAA (zAs [q,p] j hjl)
    rw[hq]at HIS
    generalize [q,p].getD j ByteArray.empty=part at *
    have hcell:=HCE.out _ HC.out
    clear hq hjl hcell0
    by_cases h0:j=0
    ·have hzero:¬(0:Int)<j:=by omega
     have hzeroN:¬0<j:=by omega
     obtain⟨T,hT⟩:∃T,S++part=T:=⟨_,rfl⟩
     have HTT:=zAA (show T=zAD (PRE++zAI ([q,p].take (j+1)))by rw[<-hT,HS.out,HJ.out,if_pos h0,List.nil_append,zAr,List.append_assoc])
     have hov:¬9223372036854775807<S.size+part.size:=by omega
     clear h0
     go_wp2_with (go_at_call 18;refine(HIS.out _).mono ?_;rintro e w2 ⟨rfl,ho⟩;have HC:=zAA (HC.out.trans ho);clear ho hcell;have hcell:=HCE.out _ HC.out)
     go_roundw
     case rel=>exact⟨j+1,by omega,by go_num,by rw[HTT.out],HZ,HC⟩
     case measure=>simp[intOf];omega
    ·have hpos:(0:Int)<j:=by omega
     have hposN:0<j:=by omega
     obtain⟨U,hU⟩:∃U,S++⟨#[44]⟩=U:=⟨_,rfl⟩
     obtain⟨T,hT⟩:∃T,U++part=T:=⟨_,rfl⟩
     have hUU:U=zAD (PRE++zAI ([q,p].take j)++[44]):=by rw[<-hU,HS.out];exact zAO _ [44]
     have HTT:=zAA (show T=zAD (PRE++zAI ([q,p].take (j+1)))by rw[<-hT,hUU,HJ.out,if_neg h0,zAr];simp)
     have hUs:U.size<=70000001:=by rw[hUU,zAF,List.length_append];have:=HJB.out;simp only[List.length_cons,List.length_nil];omega
     have hov:¬9223372036854775807<S.size+1:=by omega
     have hov2:¬9223372036854775807<U.size+part.size:=by omega
     clear h0 hUU
     go_wp2_with (go_at_call 18;refine(HIS.out _).mono ?_;rintro e w2 ⟨rfl,ho⟩;have HC:=zAA (HC.out.trans ho);clear ho hcell;have hcell:=HCE.out _ HC.out)
     go_roundw
     case rel=>exact⟨j+1,by omega,by go_num,by rw[HTT.out],HZ,HC⟩
     case measure=>simp[intOf];omega
   ·have HMK:=zAA (HPRT.out j hjl hq)
    rw[hq]at HIS
    generalize [q,p].getD j ByteArray.empty=part at *
    have hcell:=HCE.out _ HC.out
    clear hq hjl hcell0
    go_wp2_with (go_at_call 18;refine(HIS.out _).mono ?_;rintro e w2 ⟨rfl,ho⟩;have HC:=zAA (HC.out.trans ho);clear ho hcell;have hcell:=HCE.out _ HC.out)
    go_ret
    exact zAN HMK.out (HQ.out.trans HC.out)
  ·have hge:¬(j:Int)<2:=by omega
   obtain⟨T,hT⟩:∃T,S++⟨#[41]⟩=T:=⟨_,rfl⟩
   have hTT:T=zAD (zA5 6 n b [q,p]):=by rw[<-hT,HS.out,HTX.out,List.take_of_length_le (by have:=HM.out;omega)];exact zAO _ [41]
   have hTs:T.size<=70000001:=by rw[<-hT,HS.out,show zAD (PRE++zAI ([q,p].take j))++⟨#[41]⟩=zAD (PRE++zAI ([q,p].take j)++[41])from zAO _ [41],zAF,List.length_append];have:=HJB.out;simp only[List.length_cons,List.length_nil];omega
   have HIS:=zAA (fun W=>zAd W T (by unfold maxLen;omega))
   unfold zAn at HIS
   have hov:¬9223372036854775807<S.size+1:=by omega
   have hkk:∀i,i<[q,p].length->(zAE ([q,p].getD i ByteArray.empty)).isSome=true:=fun i hi=>HK.out i (by have:=HM.out;omega)
   rcases Bool.eq_false_or_eq_true (zAE T).isSome with hq|hq
   ·have HMK:=zAA (show zAS 6 n b [p,q]=T by rw[hTT];rw[hTT]at hq;exact HYES.out hkk hq)
    rw[hq]at HIS
    clear hq hTT hkk
    go_wp2_with (go_at_call 18;refine(HIS.out _).mono ?_;rintro e w2 ⟨rfl,ho⟩;have HC:=zAA (HC.out.trans ho);clear ho)
    go_ret
    exact zAN HMK.out (HQ.out.trans HC.out)
   ·have HMK:=zAA (show zAS 6 n b [p,q]=ByteArray.empty by rw[hTT]at hq;exact HNO.out hkk hq)
    rw[hq]at HIS
    clear hq hTT hkk
    go_wp2_with (go_at_call 18;refine(HIS.out _).mono ?_;rintro e w2 ⟨rfl,ho⟩;have HC:=zAA (HC.out.trans ho);clear ho)
    go_ret
    exact zAN HMK.out (HQ.out.trans HC.out)

theorem zGX(k:Int)(n:Nat)(hn:n<18446744073709551616)(bv lv:Value)(b:List UInt8)(hbl:b.length<=100000)(l:List ByteArray)(hll:l.length<=1000)(hsz:∀p∈l,p.size<=maxLen)(w:World)
  (hb:Rd w [] bv (zBR .u8 (zBo b))) (hv:Rd w [] lv (zAq l)) :
  Calls prog 101 #[.int .i64 k,.int .u64 n,bv,lv] w (zBS (zAS k n b l) w):=by
 by_cases hr:1<=k∧k<=11
 ·by_cases h4:k<=4
  ·exact zG2 k hr.1 h4 n hn bv lv b hbl l w hb hv
  ·by_cases h6:k=6
   ·by_cases hw:zC1 k l
    ·subst h6
     obtain⟨_,h2,h3⟩:=hw
     obtain⟨p,q,rfl⟩:=zHl h2
     exact zG3 n hn bv lv b p q hsz h3 w hv
    ·exact zJt k h6 n hn bv lv b hbl l hll hw hsz w hv
   ·by_cases h8:k=8∨k=10
    ·exact zJs k h8 n hn bv lv b hbl l hll hsz w hv
    ·exact zIV k (by omega) n hn bv lv b hbl l hll hsz w hv
 ·have HM:=zAA (zGU (n:=n) (b:=b) (l:=l) hr)
  have HC:=zAA (Only.refl [] w)
  clear hb hv hsz hll hbl
  by_cases h1:k<1
  ·clear hr
   go_enter func101,ntmps101
   go_wp2_with fail
   go_ret
   exact zAN HM.out HC.out
  ·have h11:11<k:=by omega
   clear hr
   go_enter func101,ntmps101
   go_wp2_with fail
   go_ret
   exact zAN HM.out HC.out
end
end Go.Proofs.YtfipdjlalfpbnaaGreatDoor
