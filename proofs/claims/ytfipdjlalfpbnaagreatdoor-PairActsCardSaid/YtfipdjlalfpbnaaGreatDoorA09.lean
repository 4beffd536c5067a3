/-
  Walks and plain words (texts Nr4, Rt1, Rt2, Rt3). No condition beyond those that each theorem states.
-/
import Derived.Test.YtfipdjlalfpbnaaGreatDoorA08
namespace Go.Proofs.YtfipdjlalfpbnaaGreatDoor
section
open Go.Proofs.Tryz
set_option maxHeartbeats 6400000
set_option maxRecDepth 100000
open Go.RowKit Go.Deep

theorem zFd{c:UInt8}(h:zEv c=true):zKe c=nib c:=by unfold zKe;rw[if_pos h]
theorem zKg{c:UInt8}(h:zEv c=false):zKe c=16:=by unfold zKe;rw[if_neg (by rw[h];exact Bool.false_ne_true)]

theorem zGp(w:World)(s:ByteArray)(hs:s.size<=1000000) :
  Calls prog 141 #[.string s] w (zDX (zDv s.data.toList) w):=by
 obtain⟨i0,hi,hz0,hz1,hz2⟩:=info_parts (show(prog.info? 5).map (fun i=>(i.zero,i.size,i.bytes))=some (some (.int .u8 0),1,1)by kernel_rfl)
 go_enter func141,ntmps141
 go_wp2_with fail
 go_loop [4] (fun i=>∃k:Nat,k<=s.size∧i=.int .i64 k∧Hid (zLg s k)) (fun i=>s.size-(intOf i).toNat)
 case atStart=>exact⟨0,Nat.zero_le _,rfl,zAA (fun i _ h=>by omega)⟩
 case round =>
  obtain⟨k,hk,rfl,hdg⟩:=hrel
  by_cases hlt:k<s.size
  ·have hltI:(k:Int)<s.size:=by omega
   cases hd:zEv s[k]with
   | true =>
    have HS:=zAA (zFx hdg.out hlt hd)
    have hx:=zCo s[k]
    have hv:=zFd hd
    clear hd
    generalize nib s[k]=x at *
    have hne:((x:Int)==16)=false:=by rw[beq_eq_false_iff_ne];omega
    have hne2:(x==16)=false:=by rw[beq_eq_false_iff_ne];omega
    go_wp2_with (go_at_call 165;refine(zEZ _ _).mono ?_;rintro e w' ⟨rfl,rfl⟩;rw[hv])
    go_round
    case rel=>exact⟨k+1,by omega,by go_num,HS⟩
    case measure=>simp[intOf];omega
   | false =>
    have HR:=zAA (zHM s k hlt hd)
    have hv:=zKg hd
    clear hd
    go_wp2_with (go_at_call 165;refine(zEZ _ _).mono ?_;rintro e w' ⟨rfl,rfl⟩;rw[hv])
    go_ret2
    exact zED HR.out (Only.refl _ _)
  ·obtain rfl:k=s.size:=by omega
   have hge0:¬(s.size:Int)<s.size:=by omega
   have HX:=zAA hdg.out
   by_cases hodd:s.size % 2=1
   ·have HR:=zAA (zHO hdg.out hodd)
    have ho2:(((s.size:Int) % 2)==1)=true:=by rw[beq_iff_eq];omega
    have ho3:(((s.size:Int).tmod 2)==1)=true:=by rw[Int.tmod_eq_emod_of_nonneg (by omega)];exact ho2
    clear hodd
    go_wp2_with fail
    go_ret2
    exact zED HR.out (Only.refl _ _)
   ·have HR:=zAA (zFz hdg.out (by omega))
    have ho2:(((s.size:Int) % 2)==1)=false:=by rw[beq_eq_false_iff_ne];omega
    have ho3:(((s.size:Int).tmod 2)==1)=false:=by rw[Int.tmod_eq_emod_of_nonneg (by omega)];exact ho2
    have HEV:=zAA (show s.size % 2=0 by omega)
    have HOW:=zAA (World.ownsRow_lit (base:=w.heap.size) w #[] 0 (Nat.le_refl _) (by unfold maxLen;omega) (e:=5) (size:=1) (by simp))
    have HO:=zAA ((Only.refl [] w).alloc (.cells #[] 5))
    clear hodd
    go_wp2_with fail
    obtain⟨w0,hw0⟩:∃w0,w0=w.alloc (.cells #[] 5):=⟨_,rfl⟩
    rw[<-hw0]at HOW HO ⊢
    clear hw0 ho2 ho3
    go_loopw [5,6] (fun v i wr=>∃j k:Nat,k<=s.size∧Hid (k=2*j)∧i=.int .i64 k∧Hid (wr.ownsRow w.heap.size 5 1 v j (zBR .u8 (zBo (zFP (s.data.toList.take k)))))∧Hid (Only [] w wr)) (fun _ i _=>s.size-(intOf i).toNat)
    case atStart=>exact⟨0,0,Nat.zero_le _,zAA rfl,rfl,HOW,HO⟩
    case round =>
     obtain⟨j,k,hk,hkj,rfl,how,ho⟩:=hrel
     by_cases hlt:k<s.size
     ·have hlt1:k+1<s.size:=by have:=hkj.out;have:=HEV.out;omega
      have hltI:(k:Int)<s.size:=by omega
      have hlt1I:(k:Int)+1<s.size:=by omega
      have hw1:IntKind.i64.wrap ((k:Int)+1)=(k:Int)+1:=IntWalk.i64_in _ (by omega)
      have h0:(0:Int)<=(k:Int)+1:=by omega
      have ht:((k:Int)+1).toNat=k+1:=by omega
      have hx:=zFd (HX.out k hlt hlt)
      have hy:=zFd (HX.out (k+1) hlt1 hlt1)
      obtain⟨x,hxx⟩:∃x,x=nib s[k]:=⟨_,rfl⟩
      obtain⟨y,hyy⟩:∃y,y=nib s[k+1]:=⟨_,rfl⟩
      obtain⟨z,hzz⟩:∃z,z=16*x+y:=⟨_,rfl⟩
      have hx16:x<16:=by rw[hxx];exact zCo _
      have hy16:y<16:=by rw[hyy];exact zCo _
      have HZ:=zAA (show z=16*nib s[k]+nib s[k+1]by rw[hzz,hxx,hyy])
      rw[<-hxx]at hx
      rw[<-hyy]at hy
      have hwm:IntKind.u8.wrap (16*(x:Int))=16*(x:Int):=by rw[IntKind.wrap_u8];omega
      have hwu:IntKind.u8.wrap (16*(x:Int)+(y:Int))=(z:Int):=by rw[IntKind.wrap_u8];omega
      obtain⟨Av,cv,rfl,hjc,hcm⟩:=zAh how.out
      have hj:j<1000000:=by have:=hkj.out;omega
      clear hxx hyy hzz
      have HOW2:=zAA (World.ownsRow.alloc (zAa how.out ((Only.refl [] wr).drew) (by simp)) (.cells #[.int .u8 (z:Int)] 5))
      have HO2:=zAA (ho.out.drew.alloc (.cells #[.int .u8 (z:Int)] 5))
      have HRN:=zAA (zAi wr.drew 5 (.int .u8 (z:Int)) (wr.heap.size+1) (Nat.lt_succ_self _))
      have HSZ:=zAA ho.out.size
      have HSZ0:=zAA HO.out.size
      go_upto_region 12 with (fail)
      go_region_held3 (fun _=>True) (exact trivial)
       (first
       | (go_at_call 165;refine(zEZ _ _).mono ?_;rintro e w' ⟨rfl,rfl⟩;first|rw[hx]|rw[hy])
       | (refine zAt _ rfl (.tmp 29) (.tmp 41) 55 rfl w.heap.size 5 i0 (.int .u8 0) 1 1 underlying55 hi hz0 hz1 hz2 rfl (by decide) _ j _ rfl HOW2.out _ _ 1 1 [.int .u8 (z:Int)] rfl HRN.out (by simp[Value.oneCell']) (by unfold maxLen;omega) (by omega) (by have:=HSZ.out;simp;omega) ?_;intro v1 w3 hown1 hg1 _;have HOW3:=zAA (zIu hown1 hkj.out hlt1 HZ.out);have HO3:=zAA (HO2.out.grown hg1 (fun j hj=>.inr (zAP HOW2.out hj)));clear hown1 hg1))
      all_goals
       go_wp2_with fail
       go_roundw
       case rel=>exact⟨j+1,k+2,by omega,zAA (by have:=hkj.out;omega),by go_num,HOW3,HO3⟩
       case measure=>simp[intOf];omega
     ·obtain rfl:k=s.size:=by omega
      have hge:¬(s.size:Int)<s.size:=by omega
      have HRD:=zAA (zHP how.out)
      go_wp2_with fail
      go_ret2
      exact zF1 HR.out ho.out HRD.out
end
section
open Go.Proofs.Tryz
set_option maxHeartbeats 3200000
set_option maxRecDepth 100000
open Go.RowKit Go.Deep

def zId(c:UInt8):Bool:=c==44 || c==41
def zA8(s:ByteArray)(p:Nat):Nat:=p+((s.data.toList.drop p).takeWhile fun c=>!zId c).length
theorem zJA(s:ByteArray)(p:Nat)(h:s.size<=p):zA8 s p=p:=by
 unfold zA8;rw[List.drop_of_length_le (by simpa using h)];simp
theorem zH8(s:ByteArray)(p:Nat)(h:p<s.size)(hd:zId s[p]=true):zA8 s p=p:=by
 unfold zA8;rw[zBp s p h];simp[hd]
theorem zH9(s:ByteArray)(p:Nat)(h:p<s.size)(hd:zId s[p]=false):zA8 s (p+1)=zA8 s p:=by
 unfold zA8;rw[zBp s p h];simp[hd];omega
theorem zEF(s:ByteArray)(p:Nat):p<=zA8 s p:=Nat.le_add_right _ _
theorem zFe(s:ByteArray)(p:Nat)(h:p<=s.size):zA8 s p<=s.size:=by
 unfold zA8
 have h1:((s.data.toList.drop p).takeWhile fun c=>!zId c).length<=(s.data.toList.drop p).length:=(List.takeWhile_sublist _).length_le
 have h2:(s.data.toList.drop p).length=s.size-p:=by rw[List.length_drop];rfl
 omega
theorem zIA{c:UInt8}(h:zId c=false):((c.toNat:Int) != 44)=true∧((c.toNat:Int) != 41)=true:=by
 unfold zId at h
 simp only[Bool.or_eq_false_iff]at h
 exact⟨zCu (n:=44) h.1 (by decide),zCu (n:=41) h.2 (by decide)⟩
theorem zJB{c:UInt8}(h:zId c=true):((c.toNat:Int) != 44)=false∨(((c.toNat:Int) != 44)=true∧((c.toNat:Int) != 41)=false):=by
 unfold zId at h
 simp only[Bool.or_eq_true,beq_iff_eq]at h
 rcases h with h|h
 ·subst h;exact .inl rfl
 ·subst h;exact .inr ⟨rfl,rfl⟩
def zCW(s:ByteArray)(p:Nat)(w:World)(e:Ending)(w':World):Prop:=e=.returned (.tuple #[.string (s.extract p (zA8 s p)),.int .i64 (zA8 s p:Nat)])∧w=w'
theorem zF9{s:ByteArray}{p j:Nat}{w:World}(h:zA8 s p=j):zCW s p w (.returned (.tuple #[.string (s.extract p j),.int .i64 (j:Nat)])) w:=by
 subst h;exact⟨rfl,rfl⟩

theorem zDZ(w:World)(s:ByteArray)(p:Nat)(hp:p<=s.size)(hs:s.size<=maxLen):Calls prog 125 #[.string s,.int .i64 p] w (zCW s p w):=by
 unfold maxLen at hs
 go_enter func125,ntmps125
 go_wp2_with fail
 go_loop [1] (fun i=>∃j:Nat,p<=j∧j<=s.size∧i=.int .i64 j∧Hid (zA8 s j=zA8 s p)) (fun i=>s.size-(intOf i).toNat)
 case atStart=>exact⟨p,Nat.le_refl _,hp,rfl,zAA rfl⟩
 case round =>
  obtain⟨j,hpj,hj,rfl,hw⟩:=hrel
  by_cases hlt:j<s.size
  ·have hltI:(j:Int)<s.size:=by omega
   have hd:decide (j<s.size)=true:=decide_eq_true hlt
   cases hc:zId s[j]with
   | false =>
    have HS:=zAA (zH9 s j hlt hc)
    obtain⟨h1,h2⟩:=zIA hc
    clear hc
    go_wp2_with fail
    go_round
    case rel=>exact⟨j+1,by omega,by omega,by go_num,zAA (HS.out.trans hw.out)⟩
    case measure=>simp[intOf];omega
   | true =>
    have HS:=zAA ((zH8 s j hlt hc).symm.trans hw.out).symm
    have hpI:(p:Int)<=j:=by omega
    rcases zJB hc with h1|⟨h1,h2⟩
    all_goals
     clear hc
     go_wp2_with fail
     go_ret2
     exact zF9 HS.out
  ·obtain rfl:j=s.size:=by omega
   have hge:¬(s.size:Int)<s.size:=by omega
   have HS:=zAA ((zJA s s.size (Nat.le_refl _)).symm.trans hw.out).symm
   have hpI:(p:Int)<=s.size:=by omega
   go_wp2_with fail
   go_ret2
   exact zF9 HS.out

def atV(s:ByteArray)(p:Nat):Nat:=if h:p<s.size then s[p].toNat else 0
theorem zDz(w:World)(s:ByteArray)(p:Nat)(_hs:s.size<=maxLen):Calls prog 123 #[.string s,.int .i64 p] w fun e w'=>e=.returned (.int .u8 (atV s p:Nat))∧w=w':=by
 unfold maxLen at _hs
 by_cases hlt:p<s.size
 ·have hltI:¬(s.size:Int)<=p:=by omega
  have hd:decide (p<s.size)=true:=decide_eq_true hlt
  have HV:=zAA (show atV s p=s[p].toNat by unfold atV;rw[dif_pos hlt])
  go_enter func123,ntmps123
  go_wp2
  go_ret
  exact⟨by rw[HV.out];rfl,rfl⟩
 ·have hge:(s.size:Int)<=p:=by omega
  have HV:=zAA (show atV s p=0 by unfold atV;rw[dif_neg hlt])
  go_enter func123,ntmps123
  go_wp2
  go_ret
  exact⟨by rw[HV.out];rfl,rfl⟩

theorem zIB(W:World):(∀k:Nat,k<11->(Instr.index 9 (.string ⟨#[48,97,110,120,112,100,104,107,109,115,108]⟩) (.int .i64 (k:Int))).run prog W=.ok (.int .u8 (([48,97,110,120,112,100,104,107,109,115,108]:List Int).getD k 0)) W):=by
 intro k hk
 rcases(show k=0∨k=1∨k=2∨k=3∨k=4∨k=5∨k=6∨k=7∨k=8∨k=9∨k=10 by omega)with rfl|rfl|rfl|rfl|rfl|rfl|rfl|rfl|rfl|rfl|rfl
 all_goals kernel_rfl
def zGA(k:Nat):Int:=([48,97,110,120,112,100,104,107,109,115,108]:List Int).getD k 0
theorem zKh:∀k,k<11->∀c:Int,zGA k=c->zAQ c=(k:Int)+1:=by
 intro k hk c hc
 subst hc
 rcases(show k=0∨k=1∨k=2∨k=3∨k=4∨k=5∨k=6∨k=7∨k=8∨k=9∨k=10 by omega)with rfl|rfl|rfl|rfl|rfl|rfl|rfl|rfl|rfl|rfl|rfl
 all_goals decide
theorem zJC(c:Int)(h:∀k,k<11->zGA k≠c):zAQ c=0:=by
 have h0:=h 0 (by omega);have h1:=h 1 (by omega);have h2:=h 2 (by omega);have h3:=h 3 (by omega);have h4:=h 4 (by omega);have h5:=h 5 (by omega)
 have h6:=h 6 (by omega);have h7:=h 7 (by omega);have h8:=h 8 (by omega);have h9:=h 9 (by omega);have h10:=h 10 (by omega)
 simp[zGA]at h0 h1 h2 h3 h4 h5 h6 h7 h8 h9 h10
 unfold zAQ
 rw[if_neg (Ne.symm h0),if_neg (Ne.symm h1),if_neg (Ne.symm h2),if_neg (Ne.symm h3),if_neg (Ne.symm h4),if_neg (Ne.symm h5),if_neg (Ne.symm h6),if_neg (Ne.symm h7),if_neg (Ne.symm h8),if_neg (Ne.symm h9),if_neg (Ne.symm h10)]

theorem zCX(c:Int)(w:World):Calls prog 122 #[.int .u8 c] w fun e w'=>e=.returned (.int .i64 (zAQ c))∧w=w':=by
 go_enter func122,ntmps122
 go_wp2_with fail
 go_loop [3] (fun i=>∃k:Nat,k<=11∧i=.int .i64 k∧Hid (∀j,j<k->zGA j≠c)) (fun i=>11-(intOf i).toNat)
 case atStart=>exact⟨0,by omega,rfl,zAA (fun j hj=>by omega)⟩
 case round =>
  obtain⟨k,hk,rfl,hm⟩:=hrel
  by_cases hlt:k<11
  ·have hltI:(k:Int)<11:=by omega
   have HI:=zAA (fun W=>zIB W k hlt)
   have hix:∀W,(Instr.index 9 (.string ⟨#[48,97,110,120,112,100,104,107,109,115,108]⟩) (.int .i64 (k:Int))).run prog W=.ok (.int .u8 (zGA k)) W:=HI.out
   by_cases he:zGA k=c
   ·have e1:(zGA k==c)=true:=by rw[beq_iff_eq];exact he
    have HV:=zAA (zKh k hlt c he)
    clear he
    go_wp2_with fail
    go_ret
    exact⟨by rw[HV.out];rfl,rfl⟩
   ·have e1:(zGA k==c)=false:=by rw[beq_eq_false_iff_ne];exact he
    have HE:=zAA he
    clear he
    go_wp2_with fail
    go_round
    case rel=>exact⟨k+1,by omega,by go_num,zAA (fun j hj=>by
     by_cases hjk:j=k
     ·subst hjk;exact HE.out
     ·exact hm.out j (by omega))⟩
    case measure=>simp[intOf];omega
  ·obtain rfl:k=11:=by omega
   have HV:=zAA (zJC c hm.out)
   go_wp2_with fail
   go_ret
   exact⟨by rw[HV.out];rfl,rfl⟩

def zBc(k n:Int):Bool:=if k=5 then decide (n=1)else if k=6∨k=8∨k=9 then decide (n=2)else if k=7 then decide (1<=n)else if k=10 then decide (n=3)else true
theorem zCY(k n:Int)(w:World):Calls prog 127 #[.int .i64 k,.int .i64 n] w fun e w'=>e=.returned (.bool (zBc k n))∧w=w':=by
 have d1:(n==1)=decide (n=1):=rfl
 have d2:(n==2)=decide (n=2):=rfl
 have d3:(n==3)=decide (n=3):=rfl
 by_cases h5:k=5
 ·subst h5
  have HV:=zAA (show zBc 5 n=decide (n=1)from rfl)
  go_enter func127,ntmps127
  go_wp2
  go_ret
  exact⟨by rw[HV.out];rfl,rfl⟩
 have e5:(k==5)=false:=by rw[beq_eq_false_iff_ne];exact h5
 by_cases h6:k=6
 ·subst h6
  have HV:=zAA (show zBc 6 n=decide (n=2)from rfl)
  go_enter func127,ntmps127
  go_wp2
  go_ret
  exact⟨by rw[HV.out];rfl,rfl⟩
 have e6:(k==6)=false:=by rw[beq_eq_false_iff_ne];exact h6
 by_cases h8:k=8
 ·subst h8
  have HV:=zAA (show zBc 8 n=decide (n=2)from rfl)
  go_enter func127,ntmps127
  go_wp2
  go_ret
  exact⟨by rw[HV.out];rfl,rfl⟩
 have e8:(k==8)=false:=by rw[beq_eq_false_iff_ne];exact h8
 by_cases h9:k=9
 ·subst h9
  have HV:=zAA (show zBc 9 n=decide (n=2)from rfl)
  go_enter func127,ntmps127
  go_wp2
  go_ret
  exact⟨by rw[HV.out];rfl,rfl⟩
 have e9:(k==9)=false:=by rw[beq_eq_false_iff_ne];exact h9
 by_cases h7:k=7
 ·subst h7
  have HV:=zAA (show zBc 7 n=decide (1<=n)from rfl)
  go_enter func127,ntmps127
  go_wp2
  go_ret
  exact⟨by rw[HV.out];rfl,rfl⟩
 have e7:(k==7)=false:=by rw[beq_eq_false_iff_ne];exact h7
 by_cases h10:k=10
 ·subst h10
  have HV:=zAA (show zBc 10 n=decide (n=3)from rfl)
  go_enter func127,ntmps127
  go_wp2
  go_ret
  exact⟨by rw[HV.out];rfl,rfl⟩
 have e10:(k==10)=false:=by rw[beq_eq_false_iff_ne];exact h10
 have HV:=zAA (show zBc k n=true by unfold zBc;rw[if_neg h5,if_neg (by rintro(h|h|h)<;>contradiction),if_neg h7,if_neg h10])
 clear h5 h6 h7 h8 h9 h10
 go_enter func127,ntmps127
 go_wp2
 go_ret
 exact⟨by rw[HV.out];rfl,rfl⟩
end
section
open Go.Proofs.Tryz
set_option maxHeartbeats 6400000
set_option maxRecDepth 100000
open Go.RowKit Go.Deep

def zAe(r:Option (Nd×Nat))(w:World)(e:Ending)(w':World):Prop :=
 match r with
 | none=>e=.returned (.tuple #[.agg #[.int .i64 0,.int .u64 0,.slice none 0 0,.slice none 0 0],.int .i64 (-1)])∧Only [] w w'
 | some (nd,q)=>∃bv pv,e=.returned (.tuple #[.agg #[.int .i64 nd.1,.int .u64 nd.2.1,bv,pv],.int .i64 (q:Nat)])∧Only [] w w' ∧
   (∀N:List Nat,(∀x∈N,x<w.heap.size)->Rd w' N bv (zBR .u8 (zBo nd.2.2.1)))∧(∀N:List Nat,(∀x∈N,x<w.heap.size)->Rd w' N pv (zAq nd.2.2.2))
def zCq(s:ByteArray)(i:Nat)(k:Int):Option (Nd×Nat) :=
 if k=1 then some ((1,0,[],[]),i)
 else if k=4 then (if (zDv (s.extract i (zA8 s i)).data.toList).2=0 then some ((4,0,(zDv (s.extract i (zA8 s i)).data.toList).1,[]),zA8 s i)else none)
 else match zCp k (s.extract i (zA8 s i)).data.toList with
  | none=>none
  | some n=>some ((k,n,[],[]),zA8 s i)
theorem zAo{r:Option (Nd×Nat)}{w w':World}(h:r=none)(ho:Only [] w w'):zAe r w (.returned (.tuple #[.agg #[.int .i64 0,.int .u64 0,.slice none 0 0,.slice none 0 0],.int .i64 (-1)])) w':=by subst h;exact⟨rfl,ho⟩
theorem zEa{r:Option (Nd×Nat)}{k:Int}{n q:Nat}{w w':World}(h:r=some ((k,n,[],[]),q))(ho:Only [] w w'):zAe r w (.returned (.tuple #[.agg #[.int .i64 k,.int .u64 (n:Nat),.slice none 0 0,.slice none 0 0],.int .i64 (q:Nat)])) w':=by
 subst h;exact⟨_,_,rfl,ho,fun N _=>Rd.nil _ N,fun N _=>Rd.nil _ N⟩
theorem zIC{r:Option (Nd×Nat)}{l:List UInt8}{q:Nat}{bv:Value}{w w':World}(h:r=some ((4,0,l,[]),q))(ho:Only [] w w')(hb:∀N:List Nat,(∀x∈N,x<w.heap.size)->Rd w' N bv (zBR .u8 (zBo l))) :
  zAe r w (.returned (.tuple #[.agg #[.int .i64 4,.int .u64 0,bv,.slice none 0 0],.int .i64 (q:Nat)])) w':=by
 subst h;exact⟨_,_,rfl,ho,hb,fun N _=>Rd.nil _ N⟩

theorem zAV{S:List Nat}{w w':World}{B:Nat}{x y z u:Value}(h:Only S w w')(hB:B∈S∨w.heap.size<=B) :
  Only S w ((((w'.setCell ⟨B,0,none⟩ x).setCell ⟨B,1,none⟩ y).setCell ⟨B,2,none⟩ z).setCell ⟨B,3,none⟩ u) :=
 (((h.setCell (p:=⟨B,0,none⟩) hB x).setCell (p:=⟨B,1,none⟩) hB y).setCell (p:=⟨B,2,none⟩) hB z).setCell (p:=⟨B,3,none⟩) hB u

theorem zKi(w:World)(s:ByteArray)(i:Nat):Calls prog 124 #[.string s,.int .i64 i,.int .i64 1] w (zAe (zCq s i 1) w):=by
 have HR:=zAA (show zCq s i 1=some ((1,0,[],[]),i)from rfl)
 have HF:=zAA (Blk.new w 77 #[.int .i64 1,.int .u64 0,.slice none 0 0,.slice none 0 0])
 go_enter func124,ntmps124
 go_wp2_with fail
 refine bodyPost_ret (zAC rfl _ _ w.heap.size 77 _ (0,0) _ rfl HF.out underlying77 rfl (by kernel_rfl)) rfl ?_
 exact zEa HR.out ((Only.refl [] w).alloc _)

theorem zHV(w:World)(s:ByteArray)(i:Nat)(k:Int)(hk:k=2∨k=3)(hi:i<=s.size)(hs:s.size<=1000000):Calls prog 124 #[.string s,.int .i64 i,.int .i64 k] w (zAe (zCq s i k) w):=by
 have HW:=zAA (fun W=>zDZ W s i hi (by unfold maxLen;omega))
 have hx:=zBb s i (zA8 s i)
 have HLV:=zAA (show zCq s i k=match zCp k (s.extract i (zA8 s i)).data.toList with|none=>none|some n=>some ((k,n,[],[]),zA8 s i)by unfold zCq;rw[if_neg (by omega),if_neg (by omega)])
 unfold zCW at HW
 generalize zA8 s i=q at *
 generalize s.extract i q=t at *
 have HN:=zAA (fun W=>zFc W t (by omega))
 unfold zCx at HN
 have hr:=zEN t.data.toList
 have HK:=zAA (show zCp k t.data.toList=if (zCT t.data.toList).2=0∧zAW k (zCT t.data.toList).1=true then some (zCT t.data.toList).1 else none from rfl)
 generalize zCT t.data.toList=r at *
 obtain⟨u,c⟩:=r
 simp only at hr HK
 have HZ:=zAA (Blk.new w 77 #[.int .i64 0,.int .u64 0,.slice none 0 0,.slice none 0 0])
 clear hi hx
 cases hc:((c:Int) != 0)with
 | true =>
  have HR:=zAA (show zCq s i k=none by rw[HLV.out,HK.out,if_neg];rintro⟨a,_⟩;subst a;simp at hc)
  rcases hk with rfl|rfl
  all_goals
   go_enter func124,ntmps124
   go_wp2_with (first
   | (go_at_call 125;refine(HW.out _).mono ?_;rintro e w1 ⟨rfl,rfl⟩)
   | (go_at_call 126;refine(HN.out _).mono ?_;rintro e w1 ⟨rfl,rfl⟩))
   refine bodyPost_ret (zAC rfl _ _ w.heap.size 77 _ (0,0) _ rfl HZ.out underlying77 rfl (by kernel_rfl)) rfl ?_
   exact zAo HR.out ((Only.refl [] w).alloc _)
 | false =>
  have hc0:c=0:=by simpa using hc
  rcases hk with rfl|rfl
  ·by_cases hu:(u:Int)<=4294967295
   ·have HR:=zAA (show zCq s i 2=some ((2,u,[],[]),q)by rw[HLV.out,HK.out,if_pos ⟨hc0,by unfold zAW;rw[if_pos rfl];exact decide_eq_true hu⟩])
    have hu2:¬(4294967295:Int)<u:=by omega
    clear hu hc0 hr
    have HF:=zAA (Blk.new w 77 #[.int .i64 2,.int .u64 (u:Nat),.slice none 0 0,.slice none 0 0])
    go_enter func124,ntmps124
    go_wp2_with (first
   | (go_at_call 125;refine(HW.out _).mono ?_;rintro e w1 ⟨rfl,rfl⟩)
   | (go_at_call 126;refine(HN.out _).mono ?_;rintro e w1 ⟨rfl,rfl⟩))
    refine bodyPost_ret (zAC rfl _ _ w.heap.size 77 _ (0,0) _ rfl HF.out underlying77 rfl (by kernel_rfl)) rfl ?_
    exact zEa HR.out ((Only.refl [] w).alloc _)
   ·have HR:=zAA (show zCq s i 2=none by rw[HLV.out,HK.out,if_neg];rintro⟨_,a⟩;unfold zAW at a;rw[if_pos rfl]at a;exact hu (of_decide_eq_true a))
    have hu2:(4294967295:Int)<u:=by omega
    clear hu hc0 hr
    go_enter func124,ntmps124
    go_wp2_with (first
   | (go_at_call 125;refine(HW.out _).mono ?_;rintro e w1 ⟨rfl,rfl⟩)
   | (go_at_call 126;refine(HN.out _).mono ?_;rintro e w1 ⟨rfl,rfl⟩))
    refine bodyPost_ret (zAC rfl _ _ w.heap.size 77 _ (0,0) _ rfl HZ.out underlying77 rfl (by kernel_rfl)) rfl ?_
    exact zAo HR.out ((Only.refl [] w).alloc _)
  ·have HR:=zAA (show zCq s i 3=some ((3,u,[],[]),q)by rw[HLV.out,HK.out,if_pos ⟨hc0,rfl⟩])
   clear hc0 hr
   have HF:=zAA (Blk.new w 77 #[.int .i64 3,.int .u64 (u:Nat),.slice none 0 0,.slice none 0 0])
   go_enter func124,ntmps124
   go_wp2_with (first
   | (go_at_call 125;refine(HW.out _).mono ?_;rintro e w1 ⟨rfl,rfl⟩)
   | (go_at_call 126;refine(HN.out _).mono ?_;rintro e w1 ⟨rfl,rfl⟩))
   refine bodyPost_ret (zAC rfl _ _ w.heap.size 77 _ (0,0) _ rfl HF.out underlying77 rfl (by kernel_rfl)) rfl ?_
   exact zEa HR.out ((Only.refl [] w).alloc _)

theorem zJD(w:World)(s:ByteArray)(i:Nat)(hi:i<=s.size)(hs:s.size<=1000000):Calls prog 124 #[.string s,.int .i64 i,.int .i64 4] w (zAe (zCq s i 4) w):=by
 have HW:=zAA (fun W=>zDZ W s i hi (by unfold maxLen;omega))
 have hx:=zBb s i (zA8 s i)
 have HLV:=zAA (show zCq s i 4=if (zDv (s.extract i (zA8 s i)).data.toList).2=0 then some ((4,0,(zDv (s.extract i (zA8 s i)).data.toList).1,[]),zA8 s i)else none from rfl)
 unfold zCW at HW
 generalize zA8 s i=q at *
 generalize s.extract i q=t at *
 have HN:=zAA (fun W=>zGp W t (by omega))
 unfold zDX at HN
 generalize zDv t.data.toList=r at *
 obtain⟨l,c⟩:=r
 simp only at HN HLV
 have HB:=zAA (Blk.new w 77 #[.int .i64 0,.int .u64 0,.slice none 0 0,.slice none 0 0])
 have HO:=zAA ((Only.refl [] w).alloc (.cells #[.int .i64 0,.int .u64 0,.slice none 0 0,.slice none 0 0] 77))
 clear hi hx
 cases hc:((c:Int) != 0)with
 | true =>
  have HR:=zAA (show zCq s i 4=none by rw[HLV.out,if_neg];intro a;subst a;simp at hc)
  go_enter func124,ntmps124
  go_wp2_with (first
   | (go_at_call 125;refine(HW.out _).mono ?_;rintro e w1 ⟨rfl,rfl⟩)
   | (go_at_call 141;refine(HN.out _).mono ?_;rintro e w2 ⟨bv,rfl,ho,hb⟩;have HO2:=zAA (HO.out.trans ho);have HB2:=zAA (HB.out.only ho (by simp));have c0:=HB2.out.cell 0;have c1:=HB2.out.cell 1;have c2:=HB2.out.cell 2;have c3:=HB2.out.cell 3;simp at c0 c1 c2 c3;have f0:=HB2.out.frozen;clear ho hb))
  refine bodyPost_ret (zAC rfl _ _ w.heap.size 77 _ (0,0) _ rfl (((((HB2.out.set_ 0 _).set_ 1 _).set_ 2 _).set_ 3 _)) underlying77 rfl (by kernel_rfl)) rfl ?_
  exact zAo HR.out (zAV HO2.out (.inr (Nat.le_refl _)))
 | false =>
  have hc0:c=0:=by simpa using hc
  subst hc0
  have HR:=zAA (show zCq s i 4=some ((4,0,l,[]),q)by rw[HLV.out,if_pos rfl])
  go_enter func124,ntmps124
  go_wp2_with (first
   | (go_at_call 125;refine(HW.out _).mono ?_;rintro e w1 ⟨rfl,rfl⟩)
   | (go_at_call 141;refine(HN.out _).mono ?_;rintro e w2 ⟨bv,rfl,ho,hb⟩;obtain⟨Ab,cb,rfl,_,_⟩:=(hb [] (by simp)).formb;have HBY:=zAA hb;have HO2:=zAA (HO.out.trans ho);have HB2:=zAA (HB.out.only ho (by simp));have c0:=HB2.out.cell 0;have c1:=HB2.out.cell 1;have c2:=HB2.out.cell 2;have c3:=HB2.out.cell 3;simp at c0 c1 c2 c3;have f0:=HB2.out.frozen;clear ho hb))
  refine bodyPost_ret (zAC rfl _ _ w.heap.size 77 _ (0,0) _ rfl (((((HB2.out.set_ 0 _).set_ 1 _).set_ 2 _).set_ 3 _)) underlying77 rfl (by kernel_rfl)) rfl ?_
  refine zIC HR.out (zAV HO2.out (.inr (Nat.le_refl _))) (fun N hN=>?_)
  exact((HBY.out (w.heap.size::N) (fun x hx=>by
   rcases List.mem_cons.1 hx with rfl|hx
   ·simp
   ·have:=hN x hx;simp;omega)).only (zAV (Only.refl [w.heap.size] w2) (.inl (by simp))) (fun x hx=>by rw[List.mem_singleton.1 hx];exact List.mem_cons_self)).less (fun x hx=>List.mem_cons_of_mem _ hx)
end
section
open Go.Proofs.Tryz
open Go.RowKit Go.Deep

def rt(s:ByteArray):Nat->Option (Int×Nat×List ByteArray)->Nat->Option (Nd×Nat)
 | 0,_,_=>none
 | f+1,none,p =>
  if zAQ (atV s p:Nat)=0 then none
  else if zAQ (atV s p:Nat)<=4 then zCq s (p+1) (zAQ (atV s p:Nat))
  else if atV s (p+1)≠40 then none
  else if zAQ (atV s p:Nat)=8∨zAQ (atV s p:Nat)=10 then
   match zCp (zAQ (atV s p:Nat)) (s.extract (p+2) (zA8 s (p+2))).data.toList with
   | none=>none
   | some n=>if atV s (zA8 s (p+2))≠44 then none else rt s f (some (zAQ (atV s p:Nat),n,[])) (zA8 s (p+2)+1)
  else if zAQ (atV s p:Nat)=11∧atV s (p+2)=41 then some ((11,0,[],[]),p+3)
  else rt s f (some (zAQ (atV s p:Nat),0,[])) (p+2)
 | f+1,some (k,n,parts),p =>
  match rt s f none p with
  | none=>none
  | some (_,q) =>
   if atV s q=41 then
    (if zBc k ((parts.length+1:Nat):Int)=true∧¬(k=6∧gtB ((parts++[s.extract p q]).getD 0 ByteArray.empty) ((parts++[s.extract p q]).getD 1 ByteArray.empty)=true)then some ((k,n,[],parts++[s.extract p q]),q+1)else none)
   else if atV s q≠44 then none
   else rt s f (some (k,n,parts++[s.extract p q])) (q+1)

theorem zCC{s:ByteArray}{p:Nat}(h:atV s p≠0):p<s.size:=by
 unfold atV at h
 split at h
 ·assumption
 ·exact absurd rfl h
theorem zGq{s:ByteArray}{p:Nat}(h:zAQ (atV s p:Nat)≠0):p<s.size:=by
 apply zCC
 intro e
 rw[e]at h
 exact h rfl
theorem zLs{s:ByteArray}{i:Nat}{k:Int}{nd:Nd}{q:Nat}(hi:i<=s.size)(h:zCq s i k=some (nd,q)):i<=q∧q<=s.size:=by
 have w1:=zEF s i
 have w2:=zFe s i hi
 unfold zCq at h
 repeat' split at h
 all_goals first
  | (cases h;done)
  | (simp only[Option.some.injEq,Prod.mk.injEq]at h;omega)
theorem zJE(s:ByteArray):∀(f:Nat) (m:Option (Int×Nat×List ByteArray)) (p:Nat) (r:Nd) (q:Nat),rt s f m p=some (r,q)->p<q∧q<=s.size:=by
 intro f
 induction f with
 | zero=>intro m p r q h;simp[rt]at h
 | succ f ih =>
  intro m p r q h
  cases m with
  | none =>
   rw[rt]at h
   split at h
   ·cases h
   ·rename_i hk
    have hp:=zGq hk
    split at h
    ·have:=zLs (show p+1<=s.size by omega) h
     omega
    ·split at h
     ·cases h
     ·rename_i h40
      have hp1:=zCC (s:=s) (p:=p+1) (by omega)
      have w1:=zEF s (p+2)
      split at h
      ·split at h
       ·cases h
       ·split at h
        ·cases h
        ·have h1:=ih _ _ _ _ h
         omega
      ·split at h
       ·rename_i h2
        have hp2:=zCC (s:=s) (p:=p+2) (by omega)
        simp only[Option.some.injEq,Prod.mk.injEq]at h
        omega
       ·have h1:=ih _ _ _ _ h
        omega
  | some kp =>
   obtain⟨k,n,parts⟩:=kp
   rw[rt]at h
   split at h
   ·cases h
   ·rename_i nd q1 hq
    have h1:=ih _ _ _ _ hq
    split at h
    ·rename_i h41
     have:=zCC (s:=s) (p:=q1) (by omega)
     split at h
     ·simp only[Option.some.injEq,Prod.mk.injEq]at h
      omega
     ·cases h
    ·split at h
     ·cases h
     ·have h2:=ih _ _ _ _ h
      omega
section
variable {s:ByteArray} {f p:Nat}
theorem zMt(h:zAQ (atV s p:Nat)=0):rt s (f+1) none p=none:=by rw[rt,if_pos h]
theorem zLt(h0:zAQ (atV s p:Nat)≠0)(h:zAQ (atV s p:Nat)<=4):rt s (f+1) none p=zCq s (p+1) (zAQ (atV s p:Nat)):=by rw[rt,if_neg h0,if_pos h]
theorem zLu(h0:zAQ (atV s p:Nat)≠0)(h:¬zAQ (atV s p:Nat)<=4)(h40:atV s (p+1)≠40):rt s (f+1) none p=none:=by rw[rt,if_neg h0,if_neg h,if_pos h40]
def rst(s:ByteArray)(f:Nat)(k:Int)(n j:Nat):Option (Nd×Nat):=if k=11∧atV s j=41 then some ((11,n,[],[]),j+1)else rt s f (some (k,n,[])) j
theorem zGB(k:Int)(hk:k=zAQ (atV s p:Nat))(h8:k=8∨k=10)(h40:atV s (p+1)=40):rt s (f+1) none p =
  match zCp k (s.extract (p+2) (zA8 s (p+2))).data.toList with
  | none=>none
  | some n=>if atV s (zA8 s (p+2))≠44 then none else rst s f k n (zA8 s (p+2)+1):=by
 rw[rt,<-hk,if_neg (by omega),if_neg (by omega),if_neg (by rw[h40];simp),if_pos h8]
 split
 ·rfl
 ·split
  ·rfl
  ·unfold rst
   rw[if_neg (by rintro⟨h,_⟩;omega)]
theorem zEb(k:Int)(hk:k=zAQ (atV s p:Nat))(h5:5<=k)(h8:¬(k=8∨k=10))(h40:atV s (p+1)=40):rt s (f+1) none p=rst s f k 0 (p+2):=by
 rw[rt,<-hk,if_neg (by omega),if_neg (by omega),if_neg (by rw[h40];simp),if_neg h8]
 unfold rst
 split
 ·rfl
 ·rfl
end
def zEc(s:ByteArray)(f:Nat):Prop:=∀(w:World) (p:Nat),p<=s.size->s.size<=1000000->2*(s.size-p)+1<=f ->
 Calls prog 97 #[.string s,.int .i64 p] w (zAe (rt s f none p) w)
end
end Go.Proofs.YtfipdjlalfpbnaaGreatDoor
