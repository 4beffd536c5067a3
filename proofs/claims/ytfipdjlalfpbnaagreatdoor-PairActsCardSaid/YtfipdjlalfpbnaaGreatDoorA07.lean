/-
  Walks and plain words (texts Win3, Ref07, Win4, Msg). No condition beyond those that each theorem states.
-/
import Derived.Laws.StructEq
import Derived.Test.YtfipdjlalfpbnaaGreatDoorA06
namespace Go.Proofs.YtfipdjlalfpbnaaGreatDoor
section
open Go.Proofs.Tryz
set_option maxRecDepth 100000
open Go.RowKit Go.Deep

theorem WinIs.zeroed{w:World}{b:Nat}{B:Nat->Bool}{top:Nat}{sm:Bool}(h:WinIs w b B top sm):WinIs (w.setCells b 0 (List.replicate 32 (.int .u64 0))) b (fun _=>false) top sm:=by
 obtain⟨ws,h,_⟩:=h
 refine⟨List.replicate 32 0,⟨?_,by simp,by intro x hx;rw[List.eq_of_mem_replicate hx];omega,h.2.2.2⟩,fun i hi=>?_⟩
 ·have h':=Blk.setCells (List.replicate 32 (.int .u64 0)) 0 h.1
  have e:wr (zAy ws top sm).toArray 0 (List.replicate 32 (.int .u64 0))=(zAy (List.replicate 32 0) top sm).toArray:=by
   unfold zAy
   rw[zIf _ _ _ (by rw[List.length_map,List.length_replicate,h.2.1]),List.map_replicate]
   rfl
  rw[e]at h'
  exact h'
 ·unfold zIz
  have e:(List.replicate 32 0).getD (i / 64) 0=0:=by
   rw[List.getD_eq_getElem?_getD,List.getElem?_replicate]
   split<;>rfl
  rw[e,Nat.zero_testBit]

theorem zEU(w:World)(b:Nat)(B:Nat->Bool)(top:Nat)(sm:Bool)(c:Nat)(hw:WinIs w b B top sm)(hc:c<18446744073709551616)(h:top<c)(hf:2048<=c-top) :
  Calls prog 117 #[.pointer (some ⟨b,0,none⟩),.int .u64 c] w fun e w'=>e=.returned (.tuple #[])∧WinIs w' b (fun _=>false) c sm∧Only [b] w w':=by
 have h1:=hw.top_
 have hfz:=hw.frozen
 have ht:top<18446744073709551616:=by omega
 have hf':(2048:Int)<=c-top:=by omega
 have HC:=zAA (show ∀j,j<32->(w.cell? ⟨b,0+j,none⟩).isSome=true from fun j hj=>by rw[Nat.zero_add];exact hw.isSome j (by omega))
 have HZ:=zAA hw.zeroed
 have HO:=zAA (Only.setCells (a:=w) (g:=b) (S:=[b]) (.inl (by simp)) 0 (List.replicate 32 (.int .u64 0)) (Only.refl [b] w))
 clear hw
 go_enter func117,ntmps117
 go_wp2_with fail
 go_step3
 go_upto_region 1 with (fail)
 refine wp_region_lit ?_
 iterate 12 go_step
 refine zDt rfl 163 (.tmp 14) (.tmp 12) rfl b 0 (List.replicate 32 (.int .u64 0)).toArray rfl rfl (by kernel_rfl) HC.out (fun j _=>by rw[Nat.zero_add];exact hfz j) (by simp[Value.oneCell']) ?_
 simp only[List.toList_toArray]
 clear h1 hfz HC
 generalize w.setCells b 0 (List.replicate 32 (.int .u64 0))=w2 at HZ HO ⊢
 have k1:=HZ.out.top_
 have k2:=HZ.out.frozen
 go_wp2_with fail
 rw[Exit.noGoto_ret]
 refine bodyPost_ret (results_none rfl _ _ _) rfl ?_
 exact⟨rfl,HZ.out.set_top c hc,HO.out.setCell (.inl (by simp)) _⟩

def AdvJ(w:World)(b:Nat)(B:Nat->Bool)(top:Nat)(sm:Bool)(c:Nat)(t:Nat)(w':World):Prop :=
 top<=t∧t<=c∧Only [b] w w'∧∃B',WinIs w' b B' t sm∧∀d,d<=t->t-d<2048->B' (d % 2048)=(decide (d<=top)&&B (d % 2048))

theorem AdvJ.step{w wj w3:World}{b:Nat}{B B':Nat->Bool}{top t c:Nat}{sm:Bool}(h1:top<=t)(h2:t<c)(ho:Only [b] w wj)
  (hB:∀d,d<=t->t-d<2048->B' (d % 2048)=(decide (d<=top)&&B (d % 2048))) (ho3:Only [b] wj w3)
  (hw3:WinIs w3 b (fun i=>!decide (i=(t+1) % 2048)&&B' i) (t+1) sm):AdvJ w b B top sm c (t+1) w3:=by
 refine⟨by omega,by omega,ho.trans ho3,_,hw3,fun d hd hd2=>?_⟩
 by_cases hdt:d=t+1
 ·subst hdt
  rw[decide_eq_true rfl,decide_eq_false (by omega)]
  rfl
 ·have hne:d % 2048≠(t+1) % 2048:=by omega
  simp only[decide_eq_false hne]
  rw[<-hB d (by omega) (by omega)]
  rfl

def zLn(w:World)(b:Nat)(B:Nat->Bool)(top:Nat)(sm:Bool)(c:Nat)(a':Act)(w':World):Prop :=
 ∃(t:Nat) (u2 u3 u4 u5 u6 u7 u8 u9 u10 u11 u12 u13 u14 u15 u16 u17 u18 u19 u20 u21 u22 u23 u24 u25 u26 u27 u28 u29 u30 u31 u32 u33 u34 u35 u36 u37:Value),a'=⟨#[.pointer (some ⟨b,0,none⟩),.int .u64 c,u2,u3,u4,u5,u6,u7,u8,u9,u10,u11,u12,u13,u14,u15,u16,u17,u18,u19,u20,u21,u22,u23,u24,u25,u26,u27,u28,u29,u30,u31,u32,u33,u34,u35,u36,u37],[]⟩∧t<c∧AdvJ w b B top sm c t w'

theorem zEA(w:World)(b:Nat)(B:Nat->Bool)(top:Nat)(sm:Bool)(c:Nat)(hw:WinIs w b B top sm)(hc:c<18446744073709551616)(h:top<c)(hf:c-top<2048) :
  Calls prog 117 #[.pointer (some ⟨b,0,none⟩),.int .u64 c] w fun e w'=>e=.returned (.tuple #[])∧AdvJ w b B top sm c c w':=by
 have h1:=hw.top_
 have ht:top<18446744073709551616:=by omega
 have hf':¬(2048:Int)<=c-top:=by omega
 go_enter func117,ntmps117
 refine wp_scope_jumps 0 (zLn w b B top sm c) (fun _ w'=>c-(intOf ((w'.cell? ⟨b,32,none⟩).getD undef)).toNat) rfl ?_ ?_
 ·have hfz:=hw.frozen
  have hB':∀d,d<=top->top-d<2048->B (d % 2048)=(decide (d<=top)&&B (d % 2048)):=fun d hd _=>by rw[decide_eq_true hd];rfl
  have HB:=zAA hB'
  clear hB'
  have HS:=zAA (hw.set_top (top+1) (by omega))
  have hOS:Only [b] w (w.setCell ⟨b,32,none⟩ (.int .u64 ((top+1:Nat):Int))):=(Only.refl _ _).setCell (.inl (by simp)) _
  have HOS:=zAA hOS
  have HU:=zAA (zF6 _ b B (top+1) sm (top+1) HS.out (by omega))
  have ec:((top+1:Nat):Int)=(top:Int)+1:=by omega
  rw[ec]at HS HOS HU
  clear hOS ec hw

  go_wp2_with fail
  go_step3
  by_cases hlt:top+1<c
  ·have hlt':(top:Int)+1<c:=by omega
   go_wp2_with (go_at_call 140;refine HU.out.mono ?_;rintro e w3 ⟨rfl,hw3,ho3⟩;have k3:=hw3.top_;rw[show((top+1:Nat):Int)=(top:Int)+1 by omega]at k3;have HJ:=zAA (AdvJ.step (c:=c) (Nat.le_refl top) (by omega) (Only.refl [b] w) HB.out (HOS.out.trans ho3) hw3);clear hw3 ho3)

   go_step3
   exact⟨rfl,top+1,_,_,_,_,_,_,_,_,_,_,_,_,_,_,_,_,_,_,_,_,_,_,_,_,_,_,_,_,_,_,_,_,_,_,_,_,rfl,hlt,HJ.out⟩
  ·have hlt':¬(top:Int)+1<c:=by omega
   go_wp2_with (go_at_call 140;refine HU.out.mono ?_;rintro e w3 ⟨rfl,hw3,ho3⟩;have k3:=hw3.top_;rw[show((top+1:Nat):Int)=(top:Int)+1 by omega]at k3;have HJ:=zAA (AdvJ.step (c:=c) (Nat.le_refl top) (by omega) (Only.refl [b] w) HB.out (HOS.out.trans ho3) hw3);clear hw3 ho3)

   simp only[Exit.jump]
   refine bodyPost_end (results_none rfl _ _ _) rfl ?_
   exact⟨rfl,by have h:=HJ.out;rwa [show top+1=c by omega]at h⟩
 ·rintro a' w' ⟨t,u2,u3,u4,u5,u6,u7,u8,u9,u10,u11,u12,u13,u14,u15,u16,u17,u18,u19,u20,u21,u22,u23,u24,u25,u26,u27,u28,u29,u30,u31,u32,u33,u34,u35,u36,u37,rfl,htc,hle,_,ho,B',hw',hB'⟩
  have k1:=hw'.top_
  have hfz:=hw'.frozen
  have htc':(t:Int)<c:=by omega
  have HB:=zAA hB'
  have HO:=zAA ho
  clear hB' ho hw h1
  have HS:=zAA (hw'.set_top (t+1) (by omega))
  have hOS:Only [b] w' (w'.setCell ⟨b,32,none⟩ (.int .u64 ((t+1:Nat):Int))):=(Only.refl _ _).setCell (.inl (by simp)) _
  have HOS:=zAA hOS
  have HU:=zAA (zF6 _ b B' (t+1) sm (t+1) HS.out (by omega))
  have ec:((t+1:Nat):Int)=(t:Int)+1:=by omega
  rw[ec]at HS HOS HU
  clear hOS ec hw'

  by_cases hlt:t+1<c
  ·have hlt':(t:Int)+1<c:=by omega
   go_wp2_with (go_at_call 140;refine HU.out.mono ?_;rintro e w3 ⟨rfl,hw3,ho3⟩;have k3:=hw3.top_;rw[show((t+1:Nat):Int)=(t:Int)+1 by omega]at k3;have HJ:=zAA (AdvJ.step (c:=c) hle (by omega) HO.out HB.out (HOS.out.trans ho3) hw3);clear hw3 ho3)

   go_step3
   refine⟨rfl,⟨t+1,_,_,_,_,_,_,_,_,_,_,_,_,_,_,_,_,_,_,_,_,_,_,_,_,_,_,_,_,_,_,_,_,_,_,_,_,rfl,hlt,HJ.out⟩,?_⟩
   simp[intOf,k1,k3]
   omega
  ·have hlt':¬(t:Int)+1<c:=by omega
   go_wp2_with (go_at_call 140;refine HU.out.mono ?_;rintro e w3 ⟨rfl,hw3,ho3⟩;have k3:=hw3.top_;rw[show((t+1:Nat):Int)=(t:Int)+1 by omega]at k3;have HJ:=zAA (AdvJ.step (c:=c) hle (by omega) HO.out HB.out (HOS.out.trans ho3) hw3);clear hw3 ho3)

   simp only[Exit.jump]
   refine bodyPost_end (results_none rfl _ _ _) rfl ?_
   exact⟨rfl,by have h:=HJ.out;rwa [show t+1=c by omega]at h⟩
end
section
open Go.Proofs.Tryz
open Go.RowKit Go.Deep

def zCJ(L:List Nat):Nat:=L.foldl max 0
theorem zCw(L:List Nat)(x:Nat):zCJ (L++[x])=max (zCJ L) x:=by simp[zCJ]
theorem zI2(L:List Nat)(k x:Nat)(h:L[k]?=some x):zCJ (L.take (k+1))=max (zCJ (L.take k)) x:=by
 rw[List.take_add_one,h]
 exact zCw _ _
theorem zI3:∀(L:List Nat) (x:Nat),x∈L->x<=zCJ L:=by
 refine zHC (fun x h=>by cases h) (fun L y ih x h=>?_)
 rw[zCw]
 rcases List.mem_append.1 h with h|h
 ·have:=ih x h;omega
 ·have:x=y:=by simpa using h
  omega
theorem zLo(B:Nat)(hB:0<B):∀(L:List Nat),(∀x∈L,x<B)->zCJ L<B:=by
 refine zHC (fun _=>hB) (fun L y ih h=>?_)
 rw[zCw]
 have h1:=ih (fun x hx=>h x (List.mem_append_left _ hx))
 have h2:=h y (by simp)
 omega

def RWin(w:World)(N:List Nat)(v:Value)(L:List Nat):Prop:=∃s,v=.agg #[s]∧Rd w N s (zBR .u64 (zC9 L))

theorem RWin.only{S:List Nat}{w w':World}{N:List Nat}{v:Value}{L:List Nat}(h:RWin w N v L)(ho:Only S w w')(hs:∀x∈S,x∈N):RWin w' N v L:=by
 obtain⟨s,hv,hr⟩:=h
 exact⟨s,hv,hr.only ho hs⟩

theorem zEV(w:World)(N:List Nat)(v:Value)(L:List Nat)(h:RWin w N v L) :
  Calls prog 119 #[v] w fun e w'=>e=.returned (.int .u64 (zCJ L:Nat))∧Only [] w w':=by
 obtain⟨s,rfl,hr⟩:=h
 obtain⟨A,cap,rfl,hc,hm⟩:=hr.formi
 rw[zCe]at hr hc ⊢
 unfold maxLen at hm
 have hat:=zAA hr.at_.2.2.2
 obtain⟨n,hn⟩:∃n,n=L.length:=⟨_,rfl⟩
 have HN:=zAA hn
 rw[<-hn]at hc ⊢
 clear hr hn
 go_enter func119,ntmps119
 go_wp2_with fail
 go_loop [3,4] (fun t i=>∃k:Nat,k<=n∧i=.int .i64 k∧t=.int .u64 (zCJ (L.take k):Nat)) (fun _ i=>n-(intOf i).toNat)
 case atStart=>exact⟨0,Nat.zero_le _,rfl,rfl⟩
 case round =>
  obtain⟨k,hk,rfl,rfl⟩:=hrel
  rcases Nat.lt_or_ge k n with hlt|hge
  case inr =>
   have hi:¬(k:Int)<n:=by omega
   have HK:=zAA (show L.take k=L by rw[List.take_of_length_le (by rw[<-HN.out];exact hge)])
   clear hge
   go_wp2
   go_ret
   exact⟨by rw[HK.out];rfl,(Only.refl _ _).alloc _⟩
  case inl =>
   have hi:(k:Int)<n:=by omega
   have hkx:L[k]?=some (L[k]'(by rw[<-HN.out];exact hlt)):=List.getElem?_eq_getElem _
   generalize (L[k]'(by rw[<-HN.out];exact hlt))=x at hkx
   obtain⟨g,o,rfl,_,hgl,hcx⟩:=hat.out k _ (zDU (zHB hkx))
   have HM:=zAA (zI2 L k x hkx)
   clear hkx
   generalize zCJ (L.take k)=t at HM ⊢
   by_cases hxt:t<x
   ·have hxt':(t:Int)<x:=by omega
    have HM':=zAA (show zCJ (L.take (k+1))=x by rw[HM.out];omega)
    clear HM
    go_wp2
    go_round
    case rel=>exact⟨k+1,by omega,by go_num,by rw[HM'.out]⟩
    case measure=>simp[intOf];omega
   ·have hxt':¬(t:Int)<x:=by omega
    have HM':=zAA (show zCJ (L.take (k+1))=t by rw[HM.out];omega)
    clear HM
    go_wp2
    go_round
    case rel=>exact⟨k+1,by omega,by go_num,by rw[HM'.out]⟩
    case measure=>simp[intOf];omega

theorem zFZ(w:World)(N:List Nat)(v:Value)(L:List Nat)(c:Nat)(h:RWin w N v L) :
  Calls prog 120 #[v,.int .u64 c] w fun e w'=>e=.returned (.bool (decide (c∈L)))∧Only [] w w':=by
 obtain⟨s,rfl,hr⟩:=h
 obtain⟨A,cap,rfl,hc,hm⟩:=hr.formi
 rw[zCe]at hr hc ⊢
 unfold maxLen at hm
 have hat:=zAA hr.at_.2.2.2
 obtain⟨n,hn⟩:∃n,n=L.length:=⟨_,rfl⟩
 have HN:=zAA hn
 rw[<-hn]at hc ⊢
 clear hr hn
 go_enter func120,ntmps120
 go_wp2_with fail
 go_loop [5] (fun i=>∃k:Nat,k<=n∧i=.int .i64 k∧Hid (c∉L.take k)) (fun i=>n-(intOf i).toNat)
 case atStart=>exact⟨0,Nat.zero_le _,rfl,zAA (by simp)⟩
 case round =>
  obtain⟨k,hk,rfl,hno⟩:=hrel
  rcases Nat.lt_or_ge k n with hlt|hge
  case inr =>
   have hi:¬(k:Int)<n:=by omega
   have HK:=zAA (show decide (c∈L)=false by
    have h:=hno.out
    rw[List.take_of_length_le (by rw[<-HN.out];exact hge)]at h
    exact decide_eq_false h)
   clear hge
   go_wp2
   go_ret
   exact⟨by rw[HK.out];rfl,(Only.refl _ _).alloc _⟩
  case inl =>
   have hi:(k:Int)<n:=by omega
   have hkx:L[k]?=some (L[k]'(by rw[<-HN.out];exact hlt)):=List.getElem?_eq_getElem _
   generalize (L[k]'(by rw[<-HN.out];exact hlt))=x at hkx
   obtain⟨g,o,rfl,_,hgl,hcx⟩:=hat.out k _ (zDU (zHB hkx))
   have HX:=zAA hkx
   clear hkx
   by_cases hxc:x=c
   ·have hq:((x:Int)==c)=true:=by rw[beq_iff_eq,hxc]
    have HK:=zAA (show decide (c∈L)=true by rw[<-hxc];exact decide_eq_true (List.mem_of_getElem? HX.out))
    clear hxc
    go_wp2
    go_ret
    exact⟨by rw[HK.out];rfl,(Only.refl _ _).alloc _⟩
   ·have hq:((x:Int)==c)=false:=by rw[beq_eq_false_iff_ne];omega
    have HK:=zAA (show c∉L.take (k+1)by
     rw[List.take_add_one,HX.out]
     simp only[Option.toList_some,List.mem_append,List.mem_singleton,not_or]
     exact⟨hno.out,fun h=>hxc h.symm⟩)
    clear hxc
    go_wp2
    go_round
    case rel=>exact⟨k+1,by omega,by go_num,HK⟩
    case measure=>simp[intOf];omega

def zAu(L:List Nat)(c:Nat):Int :=
 if 18446744073709543423<=c then 10 else if L≠[]∧(c∈L∨(c<zCJ L∧2048<=zCJ L-c))then 9 else 0

theorem zI4(w:World)(N:List Nat)(v:Value)(L:List Nat)(c:Nat)(h:RWin w N v L)(hc:c<18446744073709551616)(hL:zCJ L<18446744073709551616) :
  Calls prog 78 #[v,.int .u64 c] w fun e w'=>e=.returned (.int .i64 (zAu L c))∧Only [] w w':=by
 have HH:=zAA h
 obtain⟨s,rfl,hr⟩:=h
 obtain⟨A,cap,rfl,hcap,hm⟩:=hr.formi
 rw[zCe]at hr hcap HH ⊢
 unfold maxLen at hm
 clear hr
 by_cases k1:18446744073709543423<=c
 ·have e:zAu L c=10:=by unfold zAu;rw[if_pos k1]
  rw[e]
  have k1':decide ((18446744073709543423:Int)<=c)=true:=by rw[decide_eq_true_iff];omega
  clear e k1
  go_enter func78,ntmps78
  go_wp2_with fail
  go_ret
  exact⟨rfl,(Only.refl _ _).alloc _⟩
 have k1':decide ((18446744073709543423:Int)<=c)=false:=by rw[decide_eq_false_iff_not];omega
 by_cases k2:L=[]
 ·have e:zAu L c=0:=by unfold zAu;rw[if_neg k1,if_neg (by rw[k2];simp)]
  have hn:L.length=0:=by rw[k2];rfl
  rw[e]
  generalize hnn:L.length=n at HH hcap hn ⊢
  have hgt:¬(0:Int)<(n:Int):=by omega
  clear hnn hn e k1 k2
  go_enter func78,ntmps78
  go_wp2_with (go_at_call 119;refine(zEV _ N _ L (HH.out.only ((Only.refl [] w).alloc _) (by simp))).mono ?_;rintro e w1 ⟨rfl,ho1⟩;have kc:w1.cell? ⟨w.heap.size,0,none⟩=some (.slice A n cap):=zBf ho1 (by simp) 0;have HO1:=zAA (((Only.refl [] w).alloc _).trans ho1);clear ho1)
  go_ret
  exact⟨rfl,HO1.out⟩
 have hn:0<L.length:=List.length_pos_iff.2 k2
 generalize hnn:L.length=n at HH hcap hn ⊢
 have hgt:(0:Int)<(n:Int):=by omega
 clear hnn hn
 by_cases k3:c∈L
 ·have e:zAu L c=9:=by unfold zAu;rw[if_neg k1,if_pos ⟨k2,.inl k3⟩]
  rw[e]
  have HMEM:=zAA (decide_eq_true k3)
  clear e k1 k2 k3
  go_enter func78,ntmps78
  go_wp2_with (first|(go_at_call 119;refine(zEV _ N _ L (HH.out.only ((Only.refl [] w).alloc _) (by simp))).mono ?_;rintro e w1 ⟨rfl,ho1⟩;have kc:w1.cell? ⟨w.heap.size,0,none⟩=some (.slice A n cap):=zBf ho1 (by simp) 0;have HO1:=zAA (((Only.refl [] w).alloc _).trans ho1);clear ho1)|(go_at_call 120;refine(zFZ _ N _ L c (HH.out.only HO1.out (by simp))).mono ?_;rw[HMEM.out];rintro e w2 ⟨rfl,ho2⟩))
  go_ret
  exact⟨rfl,HO1.out.trans ho2⟩
 have HMEM:=zAA (decide_eq_false k3)
 by_cases k4:c<zCJ L
 case neg =>
  have e:zAu L c=0:=by unfold zAu;rw[if_neg k1,if_neg (by rintro⟨_,h|⟨h,_⟩⟩;exact k3 h;exact k4 h)]
  rw[e]
  have k4':¬(c:Int)<(zCJ L:Nat):=by omega
  clear e k1 k2 k3 k4
  go_enter func78,ntmps78
  go_wp2_with (first|(go_at_call 119;refine(zEV _ N _ L (HH.out.only ((Only.refl [] w).alloc _) (by simp))).mono ?_;rintro e w1 ⟨rfl,ho1⟩;have kc:w1.cell? ⟨w.heap.size,0,none⟩=some (.slice A n cap):=zBf ho1 (by simp) 0;have HO1:=zAA (((Only.refl [] w).alloc _).trans ho1);clear ho1)|(go_at_call 120;refine(zFZ _ N _ L c (HH.out.only HO1.out (by simp))).mono ?_;rw[HMEM.out];rintro e w2 ⟨rfl,ho2⟩))
  go_ret
  exact⟨rfl,HO1.out.trans ho2⟩
 have k4':(c:Int)<(zCJ L:Nat):=by omega
 by_cases k5:2048<=zCJ L-c
 ·have e:zAu L c=9:=by unfold zAu;rw[if_neg k1,if_pos ⟨k2,.inr ⟨k4,k5⟩⟩]
  rw[e]
  have k5':(2048:Int)<=(zCJ L:Nat)-(c:Int):=by omega
  clear e k1 k2 k3 k5
  go_enter func78,ntmps78
  go_wp2_with (first|(go_at_call 119;refine(zEV _ N _ L (HH.out.only ((Only.refl [] w).alloc _) (by simp))).mono ?_;rintro e w1 ⟨rfl,ho1⟩;have kc:w1.cell? ⟨w.heap.size,0,none⟩=some (.slice A n cap):=zBf ho1 (by simp) 0;have HO1:=zAA (((Only.refl [] w).alloc _).trans ho1);clear ho1)|(go_at_call 120;refine(zFZ _ N _ L c (HH.out.only HO1.out (by simp))).mono ?_;rw[HMEM.out];rintro e w2 ⟨rfl,ho2⟩))
  go_ret
  exact⟨rfl,HO1.out.trans ho2⟩
 ·have e:zAu L c=0:=by unfold zAu;rw[if_neg k1,if_neg (by rintro⟨_,h|⟨_,h⟩⟩;exact k3 h;exact k5 h)]
  rw[e]
  have k5':¬(2048:Int)<=(zCJ L:Nat)-(c:Int):=by omega
  clear e k1 k2 k3 k5
  go_enter func78,ntmps78
  go_wp2_with (first|(go_at_call 119;refine(zEV _ N _ L (HH.out.only ((Only.refl [] w).alloc _) (by simp))).mono ?_;rintro e w1 ⟨rfl,ho1⟩;have kc:w1.cell? ⟨w.heap.size,0,none⟩=some (.slice A n cap):=zBf ho1 (by simp) 0;have HO1:=zAA (((Only.refl [] w).alloc _).trans ho1);clear ho1)|(go_at_call 120;refine(zFZ _ N _ L c (HH.out.only HO1.out (by simp))).mono ?_;rw[HMEM.out];rintro e w2 ⟨rfl,ho2⟩))
  go_ret
  exact⟨rfl,HO1.out.trans ho2⟩

theorem Tryz.info23':(prog.info? 23).map (fun i=>(i.zero,i.size,i.bytes))=some (some (.int .u64 0),1,8):=by kernel_rfl

theorem zKY(w:World)(N:List Nat)(v:Value)(L:List Nat)(c:Nat)(h:RWin w N v L)(hN:∀z∈N,z<w.heap.size)(hl:L.length<=10000) :
  Calls prog 79 #[v,.int .u64 c] w fun e w'=>∃v',e=.returned v'∧RWin w' N v' (L++[c])∧Only [] w w':=by
 obtain⟨s,rfl,hr⟩:=h
 obtain⟨i0,hi,hz0,hz1,hz2⟩:=info_parts Tryz.info23'
 obtain⟨A,cap,rfl,hc,hm⟩:=hr.formi
 rw[zCe]at hr hc ⊢
 have hrd:=zAA hr.reads
 generalize hn:L.length=n at hrd hc hl ⊢
 have HN:=zAA hn
 unfold maxLen at hm
 clear hr hn
 have hsz2:w.heap.size+2<=((w.alloc (.cells #[.slice A n cap] 51)).alloc (.cells #[.slice none 0 0] 51)).heap.size:=by simp
 have hown0:=zIg ((w.alloc (.cells #[.slice A n cap] 51)).alloc (.cells #[.slice none 0 0] 51)) 23 (w.heap.size+2) hsz2
 rw[show((w.alloc (.cells #[.slice A n cap] 51)).alloc (.cells #[.slice none 0 0] 51)).heap.size=w.heap.size+1+1 by simp]at hown0
 have hown0:=zAA hown0
 have ho0:Only [] w (((w.alloc (.cells #[.slice A n cap] 51)).alloc (.cells #[.slice none 0 0] 51)).alloc (.cells #[] 23)):=(((Only.refl [] w).alloc _).alloc _).alloc _
 have hblk:Blk (((w.alloc (.cells #[.slice A n cap] 51)).alloc (.cells #[.slice none 0 0] 51)).alloc (.cells #[] 23)) (w.heap.size+1) 51 #[.slice none 0 0]:=by
  have h:=(Blk.new (w.alloc (.cells #[.slice A n cap] 51)) 51 #[.slice none 0 0]).alloc (.cells #[] 23)
  simpa using h
 have HBLK:=zAA hblk
 have HO0:=zAA ho0
 have hrd2:=zAA (show Reads (((w.alloc (.cells #[.slice A n cap] 51)).alloc (.cells #[.slice none 0 0] 51)).alloc (.cells #[] 23)) w.heap.size 1 A n (zBR .u64 (zC9 L))from((hrd.out.alloc (Nat.le_refl _) _).alloc (by simp) _).alloc (by simp;omega) _)
 have hsz3:=zAA (show w.heap.size+2<=(((w.alloc (.cells #[.slice A n cap] 51)).alloc (.cells #[.slice none 0 0] 51)).alloc (.cells #[] 23)).heap.size by simp)
 clear ho0 hblk hsz2
 go_enter func79,ntmps79
 go_wp2_with (first
  | (at_builtin;refine zAR _ rfl (.tmp 5) (.tmp 7) 49 rfl (w.heap.size+2) 23 i0 (.int .u64 0) 1 8 underlying49 hi hz0 hz1 hz2 rfl (by decide) _ 0 [] rfl hown0.out w.heap.size A n cap (zBR .u64 (zC9 L)) rfl hrd2.out (zKJ _ _) (by unfold maxLen;omega) (by omega) hsz3.out ?_;intro v1 w1 hown1 hg1 _;have HOWN1:=zAA hown1;have ho1:=zAA (HO0.out.grown hg1 (fun j hj=>.inr (by have:=zAP hown0.out hj;omega)));have HB1:=zAA (HBLK.out.grown hg1 (by intro h;have:=zAP hown0.out h.symm;omega));have hs1:=zAA (Nat.le_trans hsz3.out hg1.size);clear hown1 hg1)
  | (at_builtin;refine zAR _ rfl (.tmp 8) (.tmp 10) 49 rfl (w.heap.size+2) 23 i0 (.int .u64 0) 1 8 underlying49 hi hz0 hz1 hz2 rfl (by decide) _ (0+n) _ rfl (HOWN1.out.alloc _) (w1.heap.size+1) (some ⟨w1.heap.size,0,none⟩) 1 1 [.int .u64 c] rfl (zAi _ _ _ _ (by omega)) (by simp[Value.oneCell']) (by unfold maxLen;omega) (by omega) (by have:=hs1.out;simp;omega) ?_;intro v2 w2 hown2 hg2 _;have HB2:=zAA ((HB1.out.alloc (.cells #[.int .u64 c] 23)).grown hg2 (by intro h;have:=zAP HOWN1.out h.symm;omega));have HR2:=zAA (show w2.ownsRow (w.heap.size+2) 23 1 v2 (n+1) (zBR .u64 (zC9 (L++[c])))by rw[<-zIi,<-zIh,show n+1=0+n+1 by omega];exact hown2);have HO2:=zAA ((ho1.out.alloc _).grown hg2 (fun j hj=>.inr (by have:=zAP HOWN1.out hj;omega)));clear hown2 hg2;obtain⟨A2,c2,rfl,hc2,hm2⟩:=zAh HR2.out;have kc:w2.cell? ⟨w.heap.size+1,0,none⟩=some (.slice none 0 0):=HB2.out.cell 0;have kf:=HB2.out.frozen 0))
 have HB3:=zAA (HB2.out.set_ 0 (.slice A2 (n+1) c2))
 refine bodyPost_ret (v:=.agg #[.slice A2 (n+1) c2]) ?_ rfl ?_
 ·have hc3:=HB3.out.cell 0
  simp at hc3
  simp[results,Tryz.results79,go_sem,hc3]
 ·refine⟨_,rfl,⟨_,rfl,?_⟩,HO2.out.setCell (.inr (by simp)) _⟩
  have hR:=(Rd.of_own (N:=N++[w.heap.size+1]) HR2.out (by intro x hx;rcases List.mem_append.1 hx with h|h;have:=hN x h;omega;simp at h;omega)).1
  exact(hR.only (S:=[w.heap.size+1]) ((Only.refl _ _).setCell (.inl (by simp)) _) (by simp)).less (by intro x hx;exact List.mem_append_left _ hx)
end
section
open Go.Proofs.Tryz
open Go.RowKit Go.Deep

def WinSet(w:World)(b:Nat)(L:List Nat):Prop :=
 ∃B,WinIs w b B (zCJ L) (decide (L≠[]))∧(∀c∈L,c<18446744073709543423)∧L.Nodup∧∀d,d<=zCJ L->zCJ L-d<2048->B (d % 2048)=decide (d∈L)

theorem WinSet.only{S:List Nat}{w w':World}{b:Nat}{L:List Nat}(h:WinSet w b L)(ho:Only S w w')(hb:b∉S):WinSet w' b L:=by
 obtain⟨B,h,h2⟩:=h
 exact⟨B,h.only ho hb,h2⟩
theorem WinSet.lt{w:World}{b:Nat}{L:List Nat}(h:WinSet w b L):b<w.heap.size:=by
 obtain⟨B,h,_⟩:=h
 exact h.lt
theorem WinSet.max_lt{w:World}{b:Nat}{L:List Nat}(h:WinSet w b L):zCJ L<18446744073709543423:=by
 obtain⟨B,_,h,_⟩:=h
 exact zLo _ (by omega) L h
theorem WinSet.new{w:World}{b:Nat}(h:WinIs w b (fun _=>false) 0 false):WinSet w b [] :=
 ⟨_,h,by simp,List.nodup_nil,fun d _ _=>by simp⟩

theorem zKZ{B:Nat->Bool}{L:List Nat}{c:Nat}(hB:∀d,d<=zCJ L->zCJ L-d<2048->B (d % 2048)=decide (d∈L)):zCB B (zCJ L) (decide (L≠[])) c=zAu L c:=by
 unfold zCB zAu
 by_cases k1:18446744073709543423<=c
 ·rw[if_pos k1,if_pos k1]
 rw[if_neg k1,if_neg k1]
 by_cases k2:L=[]
 ·rw[if_pos (.inl (by simp[k2])),if_neg (by simp[k2])]
 by_cases k3:zCJ L<c
 ·rw[if_pos (.inr k3),if_neg]
  rintro⟨_,h|⟨h,_⟩⟩
  ·have:=zI3 L c h;omega
  ·omega
 rw[if_neg (by simp[k2,k3])]
 by_cases k4:2048<=zCJ L-c
 ·rw[if_pos (.inl k4),if_pos ⟨k2,.inr ⟨by omega,k4⟩⟩]
 ·have hb:=hB c (by omega) (by omega)
  by_cases k5:c∈L
  ·rw[if_pos (.inr (by rw[hb];simpa using k5)),if_pos ⟨k2,.inl k5⟩]
  ·rw[if_neg (by rw[hb];simp[k4,k5]),if_neg]
   rintro⟨_,h|⟨_,h⟩⟩
   ·exact k5 h
   ·exact k4 h

theorem zBO(w:World)(b:Nat)(L:List Nat)(c:Nat)(hw:WinSet w b L)(hc:c<18446744073709551616) :
  Calls prog 74 #[.pointer (some ⟨b,0,none⟩),.int .u64 c] w fun e w'=>e=.returned (.int .i64 (zAu L c))∧w=w':=by
 obtain⟨B,h,_,_,hB⟩:=hw
 rw[<-zKZ hB]
 exact zI1 w b B _ _ c h hc

theorem zGl(w:World)(b:Nat)(B:Nat->Bool)(top:Nat)(sm:Bool)(c:Nat)(hw:WinIs w b B top sm)(hc:c<18446744073709551616)(h:top<c) :
  Calls prog 117 #[.pointer (some ⟨b,0,none⟩),.int .u64 c] w fun e w'=>e=.returned (.tuple #[])∧∃B',WinIs w' b B' c sm∧(∀d,d<=c->c-d<2048->B' (d % 2048)=(decide (d<=top)&&B (d % 2048)))∧Only [b] w w':=by
 rcases Nat.lt_or_ge (c-top) 2048 with hf|hf
 ·exact(zEA w b B top sm c hw hc h hf).mono fun e w' ⟨he,_,_,ho,B',hw',hB⟩=>⟨he,B',hw',hB,ho⟩
 ·refine(zEU w b B top sm c hw hc h hf).mono fun e w' ⟨he,hw',ho⟩=>⟨he,_,hw',fun d hd hd2=>?_,ho⟩
  rw[decide_eq_false (by omega)]
  rfl

def zDy(L:List Nat)(c:Nat):List Nat:=if zAu L c=0 then L++[c]else L

theorem zH2{L:List Nat}{c:Nat}(h:zAu L c=0):c<18446744073709543423∧c∉L∧(L=[]∨zCJ L<c+2048):=by
 unfold zAu at h
 split at h
 ·cases h
 ·split at h
  ·cases h
  ·rename_i h1 h2
   refine⟨by omega,fun hm=>h2 ⟨(by rintro rfl;cases hm),.inl hm⟩,?_⟩
   by_cases k:L=[]
   ·exact .inl k
   ·refine .inr ?_
    apply Decidable.byContradiction
    intro h3
    exact h2 ⟨k,.inr ⟨by omega,by omega⟩⟩

theorem zGm{w':World}{b:Nat}{L:List Nat}{c:Nat}{B B':Nat->Bool}(h0:zAu L c=0)(hlt:∀d∈L,d<18446744073709543423)(hnd:L.Nodup)
  (hB:∀d,d<=zCJ L->zCJ L-d<2048->B (d % 2048)=decide (d∈L))
  (hB':∀d,d<=max (zCJ L) c->max (zCJ L) c-d<2048->B' (d % 2048)=(decide (d<=zCJ L)&&B (d % 2048)))
  (hw:WinIs w' b (fun i=>decide (i=c % 2048) || B' i) (max (zCJ L) c) true):WinSet w' b (L++[c]):=by
 obtain⟨h1,h2,h3⟩:=zH2 h0
 refine⟨_,by rw[zCw,decide_eq_true (by simp)];exact hw,fun d hd=>?_,?_,fun d hd hd2=>?_⟩
 ·rcases List.mem_append.1 hd with hd|hd
  ·exact hlt d hd
  ·have:d=c:=by simpa using hd
   omega
 ·rw[List.nodup_append]
  exact⟨hnd,by simp,fun a ha b hb hab=>h2 ((show a=c from hab.trans (by simpa using hb))▸ha)⟩
 ·rw[zCw]at hd hd2
  by_cases hdc:d=c
  ·subst hdc
   simp
  ·have hmc:max (zCJ L) c<c+2048:=by
    rcases h3 with h3|h3
    ·subst h3
     have:zCJ []=0:=rfl
     omega
    ·omega
   have hne:d % 2048≠c % 2048:=by omega
   simp only[decide_eq_false hne,Bool.false_or]
   rw[hB' d hd hd2]
   have hmem:decide (d∈L++[c])=decide (d∈L):=by rw[decide_eq_decide];simp[hdc]
   rw[hmem]
   by_cases hdt:d<=zCJ L
   ·rw[decide_eq_true hdt,Bool.true_and,hB d hdt (by omega)]
   ·rw[decide_eq_false hdt,Bool.false_and]
    symm
    rw[decide_eq_false_iff_not]
    intro hm
    exact hdt (zI3 L d hm)

theorem zGn(w:World)(b:Nat)(L:List Nat)(c:Nat)(hw:WinSet w b L)(hc:c<18446744073709551616) :
  Calls prog 76 #[.pointer (some ⟨b,0,none⟩),.int .u64 c] w fun e w'=>e=.returned (.int .i64 (zAu L c))∧WinSet w' b (zDy L c)∧Only [b] w w':=by
 have HW:=zAA hw
 obtain⟨B,hwi,hlt,hnd,hB⟩:=hw
 by_cases k:zAu L c=0
 case neg =>
  have hk:(zAu L c != 0)=true:=by rw[bne_iff_ne];exact k
  have et:zDy L c=L:=by unfold zDy;rw[if_neg k]
  rw[et]
  clear hB hlt hnd hwi k et
  generalize hr:zAu L c=r at hk ⊢
  have HR:=zAA hr
  clear hr
  go_enter func76,ntmps76
  go_wp2_with (go_at_call 74;refine(zBO _ b L c HW.out hc).mono ?_;rw[HR.out];rintro e w' ⟨rfl,rfl⟩)
  go_ret
  exact⟨rfl,HW.out,Only.refl _ _⟩
 have et:zDy L c=L++[c]:=by unfold zDy;rw[if_pos k]
 rw[et,k]
 have K:=zAA k
 have HSTEP:=zAA (fun(w':World) (B':Nat->Bool) h1 h2=>zGm (w':=w') (b:=b) (B':=B') k hlt hnd hB h1 h2)
 have h1:=hwi.top_
 have HWI:=zAA hwi
 clear hB hlt hnd hwi k et
 generalize htt:zCJ L=t at h1 HSTEP HWI
 clear htt
 by_cases k2:t<c
 ·have k2':(t:Int)<c:=by omega
  have em:=zAA (show max t c=c by omega)
  go_enter func76,ntmps76
  go_wp2_with (first
   | (go_at_call 74;refine(zBO _ b L c HW.out hc).mono ?_;rw[K.out];rintro e w' ⟨rfl,rfl⟩)
   | (go_at_call 117;refine(zGl _ b B t _ c HWI.out hc k2).mono ?_;rintro e w2 ⟨rfl,B',hw2,hB2,ho2⟩;have s2:=hw2.some_;have z2:=hw2.frozen 33;have HW2:=zAA (hw2.set_some true);have HB2:=zAA hB2;have HO2:=zAA (ho2.setCell (p:=⟨b,33,none⟩) (.inl (by simp)) (.bool true));clear hw2 hB2 ho2)
   | (go_at_call 118;refine(zI0 _ b B' c true c HW2.out hc).mono ?_;rintro e w3 ⟨rfl,hw3,ho3⟩))
  go_ret
  refine⟨rfl,HSTEP.out w3 B' ?_ ?_,HO2.out.trans ho3⟩
  ·rw[em.out];exact HB2.out
  ·rw[em.out];exact hw3
 ·have k2':¬(t:Int)<c:=by omega
  have em:=zAA (show max t c=t by omega)
  have s2:=HWI.out.some_
  have z2:=HWI.out.frozen 33
  have HW2:=zAA (HWI.out.set_some true)
  have HO2:=zAA ((Only.refl [b] w).setCell (p:=⟨b,33,none⟩) (.inl (by simp)) (.bool true))
  go_enter func76,ntmps76
  go_wp2_with (first
   | (go_at_call 74;refine(zBO _ b L c HW.out hc).mono ?_;rw[K.out];rintro e w' ⟨rfl,rfl⟩)
   | (go_at_call 118;refine(zI0 _ b B t true c HW2.out hc).mono ?_;rintro e w3 ⟨rfl,hw3,ho3⟩))
  go_ret
  refine⟨rfl,HSTEP.out w3 B ?_ ?_,HO2.out.trans ho3⟩
  ·rw[em.out];intro d hd _;rw[decide_eq_true hd];rfl
  ·rw[em.out];exact hw3
end
section
open Go.Proofs.Tryz
set_option maxHeartbeats 3200000
set_option maxRecDepth 100000
open Go.RowKit Go.Deep

structure Mg where
 k:Int
 s:Nat
 r:Nat
 c:Nat
 x4:ByteArray
 x5:ByteArray
 x6:ByteArray
 x7:ByteArray
 x8:ByteArray
 x9:ByteArray
 x10:ByteArray
 x11:ByteArray
 x12:ByteArray
def Mg.cells(m:Mg):Array Value:=#[.int .i64 m.k,.int .u32 m.s,.int .u32 m.r,.int .u64 m.c,.string m.x4,.string m.x5,.string m.x6,.string m.x7,.string m.x8,.string m.x9,.string m.x10,.string m.x11,.string m.x12]
def eqM(m n:Mg):Bool:=m.k==n.k&&m.s==n.s&&m.r==n.r&&m.c==n.c&&m.x4.toList==n.x4.toList&&m.x5.toList==n.x5.toList&&m.x6.toList==n.x6.toList&&m.x7.toList==n.x7.toList&&m.x8.toList==n.x8.toList&&m.x9.toList==n.x9.toList&&m.x10.toList==n.x10.toList&&m.x11.toList==n.x11.toList&&m.x12.toList==n.x12.toList
theorem toList_inj{a b:ByteArray}(h:a.toList=b.toList):a=b:=by
 rw[ByteArray.toList_eq,ByteArray.toList_eq]at h
 obtain⟨⟨x⟩⟩:=a
 obtain⟨⟨y⟩⟩:=b
 exact congrArg (fun z=>(⟨⟨z⟩⟩:ByteArray)) h
theorem zEW(m n:Mg):eqM m n=true↔m=n:=by
 constructor
 ·intro h
  obtain⟨k,s,r,c,x4,x5,x6,x7,x8,x9,x10,x11,x12⟩:=m
  obtain⟨k',s',r',c',y4,y5,y6,y7,y8,y9,y10,y11,y12⟩:=n
  simp only[eqM,Bool.and_eq_true,beq_iff_eq]at h
  obtain⟨⟨⟨⟨⟨⟨⟨⟨⟨⟨⟨⟨h0,h1⟩,h2⟩,h3⟩,h4⟩,h5⟩,h6⟩,h7⟩,h8⟩,h9⟩,h10⟩,h11⟩,h12⟩:=h
  rw[h0,h1,h2,h3,toList_inj h4,toList_inj h5,toList_inj h6,toList_inj h7,toList_inj h8,toList_inj h9,toList_inj h10,toList_inj h11,toList_inj h12]
 ·rintro rfl
  simp[eqM]
theorem zH3(a b:Nat):((a:Int)==(b:Int))=(a==b):=by
 rw[Bool.eq_iff_iff]
 simp only[beq_iff_eq]
 omega
theorem zH4:prog.underlying 25=some (.struct (prog.fieldsOf 25)):=by kernel_rfl
theorem zCh(m n:Mg)(w:World):(binOp .eql 25 (.agg m.cells) (.agg n.cells)).run prog w=.ok (.bool (eqM m n)) w:=by
 rw[run_eql_struct,run_equalIn_agg w 9999 _ _ _ zH4 (by kernel_rfl)]
 obtain⟨k,s,r,c,x4,x5,x6,x7,x8,x9,x10,x11,x12⟩:=m
 obtain⟨k',s',r',c',y4,y5,y6,y7,y8,y9,y10,y11,y12⟩:=n
 simp[Mg.cells,eqM,Program.fieldsOf,underlying25,Op.eqFields,go_sem]
 by_cases h:k=k'
 case neg =>
  rw[if_neg h]
  have e:(k==k')=false:=by rw[beq_eq_false_iff_ne];exact h
  simp only[e,Bool.false_and]
 rw[if_pos h]
 have e:(k==k')=true:=by rw[beq_iff_eq];exact h
 simp only[e,Bool.true_and]
 clear h e
 by_cases h:(s:Int)=s'
 case neg =>
  rw[if_neg h]
  have e:(s==s')=false:=by rw[beq_eq_false_iff_ne];omega
  simp only[e,Bool.false_and]
 rw[if_pos h]
 have e:(s==s')=true:=by rw[beq_iff_eq];omega
 simp only[e,Bool.true_and]
 clear h e
 by_cases h:(r:Int)=r'
 case neg =>
  rw[if_neg h]
  have e:(r==r')=false:=by rw[beq_eq_false_iff_ne];omega
  simp only[e,Bool.false_and]
 rw[if_pos h]
 have e:(r==r')=true:=by rw[beq_iff_eq];omega
 simp only[e,Bool.true_and]
 clear h e
 by_cases h:(c:Int)=c'
 case neg =>
  rw[if_neg h]
  have e:(c==c')=false:=by rw[beq_eq_false_iff_ne];omega
  simp only[e,Bool.false_and]
 rw[if_pos h]
 have e:(c==c')=true:=by rw[beq_iff_eq];omega
 simp only[e,Bool.true_and]
 clear h e
 by_cases h:x4.toList=y4.toList
 case neg =>
  rw[if_neg h]
  have e:(x4.toList==y4.toList)=false:=by rw[beq_eq_false_iff_ne];exact h
  simp only[e,Bool.false_and]
 rw[if_pos h]
 have e:(x4.toList==y4.toList)=true:=by rw[beq_iff_eq];exact h
 simp only[e,Bool.true_and]
 clear h e
 by_cases h:x5.toList=y5.toList
 case neg =>
  rw[if_neg h]
  have e:(x5.toList==y5.toList)=false:=by rw[beq_eq_false_iff_ne];exact h
  simp only[e,Bool.false_and]
 rw[if_pos h]
 have e:(x5.toList==y5.toList)=true:=by rw[beq_iff_eq];exact h
 simp only[e,Bool.true_and]
 clear h e
 by_cases h:x6.toList=y6.toList
 case neg =>
  rw[if_neg h]
  have e:(x6.toList==y6.toList)=false:=by rw[beq_eq_false_iff_ne];exact h
  simp only[e,Bool.false_and]
 rw[if_pos h]
 have e:(x6.toList==y6.toList)=true:=by rw[beq_iff_eq];exact h
 simp only[e,Bool.true_and]
 clear h e
 by_cases h:x7.toList=y7.toList
 case neg =>
  rw[if_neg h]
  have e:(x7.toList==y7.toList)=false:=by rw[beq_eq_false_iff_ne];exact h
  simp only[e,Bool.false_and]
 rw[if_pos h]
 have e:(x7.toList==y7.toList)=true:=by rw[beq_iff_eq];exact h
 simp only[e,Bool.true_and]
 clear h e
 by_cases h:x8.toList=y8.toList
 case neg =>
  rw[if_neg h]
  have e:(x8.toList==y8.toList)=false:=by rw[beq_eq_false_iff_ne];exact h
  simp only[e,Bool.false_and]
 rw[if_pos h]
 have e:(x8.toList==y8.toList)=true:=by rw[beq_iff_eq];exact h
 simp only[e,Bool.true_and]
 clear h e
 by_cases h:x9.toList=y9.toList
 case neg =>
  rw[if_neg h]
  have e:(x9.toList==y9.toList)=false:=by rw[beq_eq_false_iff_ne];exact h
  simp only[e,Bool.false_and]
 rw[if_pos h]
 have e:(x9.toList==y9.toList)=true:=by rw[beq_iff_eq];exact h
 simp only[e,Bool.true_and]
 clear h e
 by_cases h:x10.toList=y10.toList
 case neg =>
  rw[if_neg h]
  have e:(x10.toList==y10.toList)=false:=by rw[beq_eq_false_iff_ne];exact h
  simp only[e,Bool.false_and]
 rw[if_pos h]
 have e:(x10.toList==y10.toList)=true:=by rw[beq_iff_eq];exact h
 simp only[e,Bool.true_and]
 clear h e
 by_cases h:x11.toList=y11.toList
 case neg =>
  rw[if_neg h]
  have e:(x11.toList==y11.toList)=false:=by rw[beq_eq_false_iff_ne];exact h
  simp only[e,Bool.false_and]
 rw[if_pos h]
 have e:(x11.toList==y11.toList)=true:=by rw[beq_iff_eq];exact h
 simp only[e,Bool.true_and]
 clear h e
 by_cases h:x12.toList=y12.toList
 case neg =>
  rw[if_neg h]
  have e:(x12.toList==y12.toList)=false:=by rw[beq_eq_false_iff_ne];exact h
  simp only[e]
 rw[if_pos h]
 have e:(x12.toList==y12.toList)=true:=by rw[beq_iff_eq];exact h
 simp only[e]
theorem zFa(m n:Mg)(w:World):(binOp .neq 25 (.agg m.cells) (.agg n.cells)).run prog w=.ok (.bool (!eqM m n)) w:=by
 have h:=zCh m n w
 rw[run_eql_struct]at h
 rw[run_neq_struct]
 generalize (Op.equalIn 10000 25 (.agg m.cells) (.agg n.cells)).run prog w=R at *
 cases R with
 | ok b w1 =>
  simp only[Result.andThen_ok]at h ⊢
  injection h with h1 h2
  injection h1 with h1
  rw[h1,h2]
 | halt x w1=>simp[Result.andThen]at h
end
end Go.Proofs.YtfipdjlalfpbnaaGreatDoor
