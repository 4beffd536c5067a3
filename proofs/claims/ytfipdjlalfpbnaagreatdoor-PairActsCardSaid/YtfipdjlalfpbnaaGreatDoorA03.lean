/-
  Walks and plain words (texts Num3, Num4, Tm4, Scope, Tm5). No condition beyond those that each theorem states.
-/
import Derived.Test.YtfipdjlalfpbnaaGreatDoorA02
namespace Go.Proofs.YtfipdjlalfpbnaaGreatDoor
section
open Go.Proofs.Tryz
open Go.RowKit Go.Deep

theorem zKS(w:World)(s:ByteArray)(hs:s.size<=1000000):Calls prog 166 #[.string s] w (zEC (zCT s.data.toList) w):=by
 rcases Nat.eq_zero_or_pos s.size with h|h
 ·exact zEu w s h
 ·exact zFO w s (by unfold maxLen;omega) h

def zEv(c:UInt8):Bool:=decide (0<=zCt c.toNat)
def nib(c:UInt8):Nat:=(zCt c.toNat).toNat
def zFP:List UInt8->List UInt8
 | a::b::r=>UInt8.ofNat (16*nib a+nib b)::zFP r
 | _=>[]
def zDv(l:List UInt8):List UInt8×Nat:=if l.all zEv=false then ([],3)else if l.length % 2=1 then ([],4)else (zFP l,0)
theorem zCo(c:UInt8):nib c<16:=by unfold nib zCt;split<;>(try split)<;>omega
theorem zHK{c:UInt8}(h:zEv c=true):zCt c.toNat=(nib c:Nat):=by
 unfold zEv at h
 unfold nib
 have:=of_decide_eq_true h
 omega
theorem zHL{r:Int}(h:0<=zCt r):48<=r∧r<=102:=by unfold zCt at h;split at h<;>(try split at h)<;>omega
def zLg(s:ByteArray)(k:Nat):Prop:=∀i (h:i<s.size),i<k->zEv s[i]=true
theorem zFx{s:ByteArray}{k:Nat}(h:zLg s k)(hk:k<s.size)(hd:zEv s[k]=true):zLg s (k+1):=by
 intro i hi hik
 by_cases e:i=k
 ·subst e;exact hd
 ·exact h i hi (by omega)
theorem zHw(s:ByteArray)(k:Nat)(h:k<s.size)(hd:zEv s[k]=true):Utf8.decode s k=(s[k].toNat,1):=by
 refine decode_ascii s k h ?_
 have:=zHL (of_decide_eq_true hd)
 omega
theorem zFy(s:ByteArray)(k:Nat)(h:k<s.size)(hd:zEv s[k]=false):zCt (Utf8.decode s k).1<0:=by
 by_cases ha:s[k].toNat<128
 ·rw[decode_ascii s k h ha]
  have:=of_decide_eq_false hd
  simp only
  omega
 ·have h1:=(decode_high s k h (by omega)).1
  by_cases h2:0<=zCt (Utf8.decode s k).1
  ·have:=zHL h2
   omega
  ·omega
theorem zHM(s:ByteArray)(i:Nat)(h:i<s.size)(hd:zEv s[i]=false):zDv s.data.toList=([],3):=by
 unfold zDv
 rw[if_pos]
 rw[List.all_eq_false]
 exact⟨s[i],(by rw[Array.mem_toList_iff];exact Array.getElem_mem (by simpa using h)),by simp[hd]⟩
theorem zHN{s:ByteArray}(h:zLg s s.size):s.data.toList.all zEv=true:=by
 rw[List.all_eq_true]
 intro x hx
 obtain⟨i,hi,rfl⟩:=List.getElem_of_mem hx
 exact h i (by simpa using hi) (by simpa using hi)
theorem zHO{s:ByteArray}(h:zLg s s.size)(ho:s.size % 2=1):zDv s.data.toList=([],4):=by
 unfold zDv
 rw[if_neg (by rw[zHN h];simp),if_pos (by rw[Array.length_toList];exact ho)]
theorem zFz{s:ByteArray}(h:zLg s s.size)(ho:s.size % 2=0):zDv s.data.toList=(zFP s.data.toList,0):=by
 unfold zDv
 rw[if_neg (by rw[zHN h];simp),if_neg (by rw[Array.length_toList];show ¬s.size % 2=1;omega)]
theorem zEP:∀(l m:List UInt8),l.length % 2=0->zFP (l++m)=zFP l++zFP m
 | [],m,_=>rfl
 | [a],m,h=>by simp at h
 | a::b::r,m,h=>by
  simp only[List.cons_append,zFP]
  rw[zEP r m (by simp at h;omega)]
theorem zIt(s:ByteArray)(j:Nat)(h:2*j+1<s.size):zFP (s.data.toList.take (2*(j+1)))=zFP (s.data.toList.take (2*j))++[UInt8.ofNat (16*nib s[2*j]+nib s[2*j+1])]:=by
 have hl:s.data.toList.length=s.size:=rfl
 have e:s.data.toList.take (2*(j+1))=s.data.toList.take (2*j)++[s[2*j],s[2*j+1]]:=by
  rw[show 2*(j+1)=2*j+1+1 by omega,List.take_succ_eq_append_getElem (by omega),List.take_succ_eq_append_getElem (by omega),List.append_assoc]
  rfl
 rw[e,zEP _ _ (by rw[List.length_take];omega)]
 rfl
def zDX(r:List UInt8×Nat)(w:World)(e:Ending)(w':World):Prop :=
 ∃v,e=.returned (.tuple #[v,.int .i64 r.2])∧Only [] w w'∧∀N:List Nat,(∀x∈N,x<w.heap.size)->Rd w' N v (zBR .u8 (zBo r.1))
theorem zED{r:List UInt8×Nat}{c:Nat}{w w':World}(h:r=([],c))(ho:Only [] w w'):zDX r w (.returned (.tuple #[.slice none 0 0,.int .i64 c])) w':=by
 subst h;exact⟨_,rfl,ho,fun N _=>Rd.nil w' N⟩
end
section
open Go.Proofs.Tryz
set_option maxHeartbeats 6400000
set_option maxRecDepth 100000
open Go.RowKit Go.Deep

theorem zF0(a:Nat)(ha:a<9223372036854775808):(BitVec.ofInt 64 (a:Int)).toNat=a:=by
 rw[BitVec.ofInt_natCast,BitVec.toNat_ofNat];exact Nat.mod_eq_of_lt (by omega)
theorem zHx(a b:Nat)(ha:a<9223372036854775808)(hb:b<9223372036854775808):bits .or .i64 (a:Int) (b:Int)=((a ||| b:Nat):Int):=by
 have hx:a ||| b<2 ^ 63:=Nat.or_lt_two_pow (by omega) (by omega)
 show IntKind.i64.wrap ((BitVec.ofInt 64 (a:Int) ||| BitVec.ofInt 64 (b:Int)).toNat:Int)=_
 rw[BitVec.toNat_or,zF0 a ha,zF0 b hb,IntKind.wrap_i64]
 omega
theorem zMa(x y:Nat)(hx:x<16)(hy:y<16):bits .or .i64 ((x:Int)*16) (y:Int)=((16*x+y:Nat):Int):=by
 have h:=zHx (16*x) y (by omega) (by omega)
 have e:16*x ||| y=16*x+y:=(Nat.two_pow_add_eq_or_of_lt (i:=4) hy x).symm
 rw[e]at h
 rw[<-h,show((16*x:Nat):Int)=(x:Int)*16 by omega]
theorem zDM(k:IntKind)(l m:List Int):zBR k l++zBR k m=zBR k (l++m):=by simp[zBR]
theorem zF1{r:List UInt8×Nat}{l:List UInt8}{c:Nat}{v:Value}{w w':World}(h:r=(l,c))(ho:Only [] w w')(hr:∀N:List Nat,(∀x∈N,x<w.heap.size)->Rd w' N v (zBR .u8 (zBo l))):zDX r w (.returned (.tuple #[v,.int .i64 c])) w':=by
 subst h;exact⟨_,rfl,ho,hr⟩
theorem zHP{w':World}{B e j:Nat}{v:Value}{s:ByteArray}(h:w'.ownsRow B e 1 v j (zBR .u8 (zBo (zFP (s.data.toList.take s.size))))):∀N:List Nat,(∀x∈N,x<B)->Rd w' N v (zBR .u8 (zBo (zFP s.data.toList))):=by
 intro N hN
 have h1:=(Rd.of_own h hN).1
 rwa [show s.data.toList.take s.size=s.data.toList from List.take_of_length_le (Nat.le_of_eq rfl)]at h1
theorem zIu{v:Value}{w':World}{B e j k:Nat}{s:ByteArray}{z:Nat}(h:w'.ownsRow B e 1 v (j+1) (zBR .u8 (zBo (zFP (s.data.toList.take k)))++[.int .u8 (z:Int)]))(hk:k=2*j)(hlt:k+1<s.size)
  (hz:z=16*nib s[k]+nib s[k+1]):w'.ownsRow B e 1 v (j+1) (zBR .u8 (zBo (zFP (s.data.toList.take (k+2))))):=by
 subst hk
 have e:=zIt s j (by omega)
 rw[show 2*(j+1)=2*j+2 by omega]at e
 rw[e,zEM,<-zDM]
 have hb:zBo [UInt8.ofNat (16*nib s[2*j]+nib s[2*j+1])]=[(z:Int)]:=by
  unfold zBo
  simp only[List.map_cons,List.map_nil,UInt8.toNat_ofNat']
  have h1:=zCo s[2*j]
  have h2:=zCo s[2*j+1]
  rw[<-hz,Nat.mod_eq_of_lt (by omega)]
 rw[hb]
 exact h

theorem zGh(w:World)(s:ByteArray)(hs:s.size<=1000000) :
  Calls prog 145 #[.string s] w (zDX (zDv s.data.toList) w):=by
 obtain⟨i0,hi,hz0,hz1,hz2⟩:=info_parts (show(prog.info? 5).map (fun i=>(i.zero,i.size,i.bytes))=some (some (.int .u8 0),1,1)by kernel_rfl)
 go_enter func145,ntmps145
 go_wp2_with fail
 go_loopg [5] s.size (fun gk r wr=>∃k:Nat,k<=s.size∧gk+k=s.size∧Hid (zLg s k)∧wr=w.iter s k)
 case atStart=>exact⟨0,Nat.zero_le _,by omega,zAA (fun i _ h=>by omega),rfl⟩
 case round =>
  obtain⟨k,hk,hgk,hdg,rfl⟩:=hrel
  have HG:=zAA hgk
  clear hgk
  by_cases hlt:k<s.size
  ·have hnx:∀ty,(Instr.next (.pointer (some ⟨w.heap.size,0,none⟩)) true ty).run prog (w.iter s k)=_:=fun ty=>run_next_any w s k ty hlt
   cases hd:zEv s[k]with
   | true =>
    rw[zHw s k hlt hd]at hnx
    have hge:¬zCt (s[k].toNat:Int)<0:=by have:=of_decide_eq_true hd;omega
    have HS:=zAA (zFx hdg.out hlt hd)
    clear hd
    go_wp2_with (go_at_call 167;refine(zFK _ _).mono ?_;rintro e w' ⟨rfl,rfl⟩)
    go_roundg (gk-1)
    case rel=>exact⟨k+1,by omega,by have:=HG.out;omega,HS,rfl⟩
    case measure=>have:=HG.out;omega
   | false =>
    have hb:=zFy s k hlt hd
    have HR:=zAA (zHM s k hlt hd)
    have hr:=decode_le s k
    clear hd
    generalize Utf8.decode s k=d at *
    obtain⟨r,n⟩:=d
    simp only at hb hr hnx
    go_wp2_with (go_at_call 167;refine(zFK _ _).mono ?_;rintro e w' ⟨rfl,rfl⟩)
    go_ret2
    exact zED HR.out (zBg w s _)
  ·obtain rfl:k=s.size:=by omega
   have hnx:∀ty,(Instr.next (.pointer (some ⟨w.heap.size,0,none⟩)) true ty).run prog (w.iter s s.size)=_:=fun ty=>run_next_end w s s.size ty hlt
   have HX:=zAA hdg.out
   by_cases hodd:s.size % 2=1
   ·have HR:=zAA (zHO hdg.out hodd)
    have ho2:(((s.size:Int) % 2) != 0)=true:=by rw[bne_iff_ne];omega
    clear hodd
    go_wp2_with fail
    go_ret2
    exact zED HR.out (zBg w s _)
   ·have HR:=zAA (zFz hdg.out (by omega))
    have ho2:(((s.size:Int) % 2) != 0)=false:=by rw[bne_eq_false_iff_eq];omega
    have HEV:=zAA (show s.size % 2=0 by omega)
    obtain⟨m,hm⟩:∃m,s.size=2*m:=⟨s.size / 2,by omega⟩
    have hm2:(s.size:Int) / 2=(m:Int):=by omega
    have hmk:∀W,(Instr.makeSlice 55 (.int .i64 0) (.int .i64 ((s.size:Int) / 2))).run prog W=.ok (.slice (some ⟨W.heap.size,0,none⟩) 0 m) (W.alloc (.cells (Array.replicate m (.int .u8 0)) 5)):=by
     intro W
     rw[hm2]
     exact zD7 W 55 5 i0 _ underlying55 hi hz0 hz1 rfl .i64 .i64 0 m (Nat.zero_le _) (by rw[hz2];omega) (by omega)
    have HM:=zAA hm
    have HOW:=zAA (World.ownsRow_made (base:=w.heap.size) (w.iter s s.size) (Array.replicate m (.int .u8 0)) m (by simp[World.iter]) (by unfold maxLen;omega) (e:=5) (size:=1) (by simp))
    have HO:=zAA ((zBg w s s.size).alloc (.cells (Array.replicate m (.int .u8 0)) 5))
    clear hodd hm hm2
    go_wp2_with fail
    obtain⟨w0,hw0⟩:∃w0,w0=(w.iter s s.size).alloc (.cells (Array.replicate m (.int .u8 0)) 5):=⟨_,rfl⟩
    rw[<-hw0]at HOW HO ⊢
    have hsz:w.heap.size<=w0.heap.size:=HO.out.size
    clear hw0 hmk ho2
    go_loopw [6,7] (fun v i wr=>∃j k:Nat,k<=s.size∧Hid (k=2*j)∧i=.int .i64 k∧Hid (wr.ownsRow w.heap.size 5 1 v j (zBR .u8 (zBo (zFP (s.data.toList.take k)))))∧Hid (Only [] w wr)) (fun _ i _=>s.size-(intOf i).toNat)
    case atStart=>exact⟨0,0,Nat.zero_le _,zAA rfl,rfl,HOW,HO⟩
    case round =>
     obtain⟨j,k,hk,hkj,rfl,how,ho⟩:=hrel
     by_cases hlt:k<s.size
     ·have hlt1:k+1<s.size:=by have:=hkj.out;have:=HM.out;omega
      have hltI:(k:Int)<s.size:=by omega
      have hlt1I:(k:Int)+1<s.size:=by omega
      have hw1:IntKind.i64.wrap ((k:Int)+1)=(k:Int)+1:=IntWalk.i64_in _ (by omega)
      have h0:(0:Int)<=(k:Int)+1:=by omega
      have ht:((k:Int)+1).toNat=k+1:=by omega
      have hx:=zHK (HX.out k hlt hlt)
      have hy:=zHK (HX.out (k+1) hlt1 hlt1)
      obtain⟨x,hxx⟩:∃x,x=nib s[k]:=⟨_,rfl⟩
      obtain⟨y,hyy⟩:∃y,y=nib s[k+1]:=⟨_,rfl⟩
      obtain⟨z,hzz⟩:∃z,z=16*x+y:=⟨_,rfl⟩
      have hx16:x<16:=by rw[hxx];exact zCo _
      have hy16:y<16:=by rw[hyy];exact zCo _
      have hor:=zMa x y hx16 hy16
      rw[<-hzz]at hor
      have HZ:=zAA (show z=16*nib s[k]+nib s[k+1]by rw[hzz,hxx,hyy])
      rw[<-hxx]at hx
      rw[<-hyy]at hy
      have hb1:=zIp s[k]
      have hb2:=zIp s[k+1]
      have hwa:IntKind.i32.wrap (s[k].toNat:Int)=s[k].toNat:=by rw[IntKind.wrap_i32];omega
      have hwb:IntKind.i32.wrap (s[k+1].toNat:Int)=s[k+1].toNat:=by rw[IntKind.wrap_i32];omega
      have hws:IntKind.i64.wrap ((x:Int)*16)=(x:Int)*16:=IntWalk.i64_in _ (by omega)
      have hwu:IntKind.u8.wrap (z:Int)=(z:Int):=by rw[IntKind.wrap_u8];omega
      obtain⟨Av,cv,rfl,hjc,hcm⟩:=zAh how.out
      have hj:j<1000000:=by have:=hkj.out;omega
      clear hxx hyy hzz hb1 hb2
      have HOW2:=zAA (World.ownsRow.alloc (zAa how.out ((Only.refl [] wr).drew) (by simp)) (.cells #[.int .u8 (z:Int)] 5))
      have HO2:=zAA (ho.out.drew.alloc (.cells #[.int .u8 (z:Int)] 5))
      have HRN:=zAA (zAi wr.drew 5 (.int .u8 (z:Int)) (wr.heap.size+1) (Nat.lt_succ_self _))
      have HSZ:=zAA ho.out.size
      go_upto_region 12 with (fail)
      go_region_held3 (fun _=>True) (exact trivial)
       (first
       | (go_at_call 167;refine(zFK _ _).mono ?_;rintro e w' ⟨rfl,rfl⟩)
       | (refine zAt _ rfl (.tmp 30) (.tmp 45) 55 rfl w.heap.size 5 i0 (.int .u8 0) 1 1 underlying55 hi hz0 hz1 hz2 rfl (by decide) _ j _ rfl HOW2.out _ _ 1 1 [.int .u8 (z:Int)] rfl HRN.out (by simp[Value.oneCell']) (by unfold maxLen;omega) (by omega) (by have:=HSZ.out;simp;omega) ?_;intro v1 w3 hown1 hg1 _;have HOW3:=zAA (zIu hown1 hkj.out hlt1 HZ.out);have HO3:=zAA (HO2.out.grown hg1 (fun j hj=>.inr (zAP HOW2.out hj)));clear hown1 hg1))
      all_goals
       go_wp2_with fail
       go_roundw
       case rel=>exact⟨j+1,k+2,by omega,zAA (by have:=hkj.out;omega),by go_num,HOW3,HO3⟩
       case measure=>simp[intOf];omega
     ·obtain rfl:k=s.size:=by omega
      have hge:¬(s.size:Int)<s.size:=by omega
      have HRD:=zAA (zHP how.out)
      go_wp2_with fail
      go_ret2
      exact zF1 HR.out ho.out HRD.out
end
section
open Go.Proofs.Tryz
set_option maxHeartbeats 1600000
set_option maxRecDepth 100000
open Go.RowKit Go.Deep

def zCp(k:Int)(l:List UInt8):Option Nat:=if (zCT l).2=0∧zAW k (zCT l).1=true then some (zCT l).1 else none
def gtB(a b:ByteArray):Bool:=!(Op.bytesLess a.toList b.toList || a.toList==b.toList)
abbrev Nd:=Int×Nat×List UInt8×List ByteArray
def zBM(s:ByteArray)(k:Int)(n:Nat)(parts:List ByteArray)(p:Nat):Option (Nd×Nat) :=
 if zAw s p 41=true then (if zBF k parts.length=true then some ((k,n,[],parts),p+1)else none)else none
def rd(s:ByteArray):Nat->Option (Int×Nat×List ByteArray)->Nat->Option (Nd×Nat)
 | 0,_,_=>none
 | f+1,none,p =>
  if h:p<s.size then
   if zAQ s[p].toNat=0 then none
   else if zAQ s[p].toNat=1 then some ((1,0,[],[]),p+1)
   else if zAQ s[p].toNat=2∨zAQ s[p].toNat=3 then
    match zCp (zAQ s[p].toNat) (s.extract (p+1) (zBV s (p+1))).data.toList with
    | none=>none
    | some n=>some ((zAQ s[p].toNat,n,[],[]),zBV s (p+1))
   else if zAQ s[p].toNat=4 then
    if (zDv (s.extract (p+1) (zBV s (p+1))).data.toList).2=0 then some ((4,0,(zDv (s.extract (p+1) (zBV s (p+1))).data.toList).1,[]),zBV s (p+1))else none
   else if zAw s (p+1) 40=false then none
   else if zAK (zAQ s[p].toNat)=true then
    match zCp (zAQ s[p].toNat) (s.extract (p+2) (zBV s (p+2))).data.toList with
    | none=>none
    | some n =>
     if zAw s (zBV s (p+2)) 44=false then none
     else if zAw s (zBV s (p+2)+1) 41=true then zBM s (zAQ s[p].toNat) n [] (zBV s (p+2)+1)
     else rd s f (some (zAQ s[p].toNat,n,[])) (zBV s (p+2)+1)
   else if zAw s (p+2) 41=true then zBM s (zAQ s[p].toNat) 0 [] (p+2)
   else rd s f (some (zAQ s[p].toNat,0,[])) (p+2)
  else none
 | f+1,some (k,n,parts),p =>
  match rd s f none p with
  | none=>none
  | some (_,q) =>
   if k=6∧parts.length=1∧gtB (parts.getLastD ByteArray.empty) (s.extract p q)=true then none
   else if zAw s q 44=true then rd s f (some (k,n,parts++[s.extract p q])) (q+1)
   else zBM s k n (parts++[s.extract p q]) q

def zDw(g:Nat)(s:ByteArray)(p:Nat)(r:Option Nat)(w:World)(e:Ending)(w':World):Prop :=
 match r with
 | none=>zIn [g] w e w'
 | some n=>e=.returned (.int .u64 n)∧At g s (zBV s p) w'∧Only [g] w w'∧n<18446744073709551616
theorem zF2{g:Nat}{s:ByteArray}{p:Nat}{r:Option Nat}{w w':World}(h:r=none)(ho:Only [g] w w'):zDw g s p r w (.panicked [{ v:=.iface 183 (.agg #[]),recovered:=false }]) w':=by
 subst h;exact⟨rfl,ho⟩
theorem zHy{g:Nat}{s:ByteArray}{p n:Nat}{r:Option Nat}{w w':World}(h:r=some n)(hb:At g s (zBV s p) w')(ho:Only [g] w w')(hn:n<18446744073709551616):zDw g s p r w (.returned (.int .u64 n)) w':=by
 subst h;exact⟨rfl,hb,ho,hn⟩
theorem zBb(s:ByteArray)(p q:Nat):(s.extract p q).size<=s.size:=by
 rw[ByteArray.size_extract];omega

theorem zE1(w:World)(g:Nat)(s:ByteArray)(p:Nat)(k:Int)(hb:At g s p w)(hp:p<=s.size)(hs:s.size<=1000000) :
  Calls prog 144 #[.pointer (some ⟨g,0,none⟩),.int .i64 k] w (zDw g s p (zCp k (s.extract p (zBV s p)).data.toList) w):=by
 have HW:=zAA (zHH w g s p hb hp (by unfold maxLen;omega))
 have hx:=zBb s p (zBV s p)
 generalize hq:zBV s p=q at *
 have HQ:=zAA hq
 clear hq
 generalize ht:s.extract p q=t at *
 have HT:=zAA ht
 clear ht hb
 have HN:=zAA (fun W=>zKS W t)
 have HA:=zAA (fun W n=>zB9 k n W)
 have hr:=zEN t.data.toList
 have HK:=zAA (show zCp k t.data.toList=if (zCT t.data.toList).2=0∧zAW k (zCT t.data.toList).1=true then some (zCT t.data.toList).1 else none from rfl)
 generalize zCT t.data.toList=r at *
 obtain⟨u,c⟩:=r
 simp only at hr HK
 cases hc:((c:Int) != 0)with
 | true =>
  have HR:=zAA (show zCp k t.data.toList=none by rw[HK.out,if_neg];rintro⟨a,_⟩;subst a;simp at hc)
  go_enter func144,ntmps144
  go_wp2_with (first
   | (go_at_call 146;refine HW.out.mono ?_;rintro e w1 ⟨rfl,hb1,ho1⟩;rw[HQ.out,HT.out];have HO1:=zAA ho1;clear hb1 ho1)
   | (go_at_call 166;refine(HN.out _ (by omega)).mono ?_;rintro e w2 ⟨rfl,ho2⟩;have HO2:=zAA (HO1.out.trans (ho2.mono (by simp)));clear ho2))
  exact⟨rfl,zF2 HR.out HO2.out⟩
 | false =>
  have hc0:c=0:=by simpa using hc
  cases ha:zAW k u with
  | false =>
   have HR:=zAA (show zCp k t.data.toList=none by rw[HK.out,if_neg];rintro⟨_,a⟩;rw[ha]at a;cases a)
   have HAL:=zAA ha
   have HC0:=zAA hc0
   clear ha hc0
   go_enter func144,ntmps144
   go_wp2_with (first
    | (go_at_call 146;refine HW.out.mono ?_;rintro e w1 ⟨rfl,hb1,ho1⟩;rw[HQ.out,HT.out];have HO1:=zAA ho1;clear hb1 ho1)
    | (go_at_call 166;refine(HN.out _ (by omega)).mono ?_;rintro e w2 ⟨rfl,ho2⟩;have HO2:=zAA (HO1.out.trans (ho2.mono (by simp)));clear ho2)
    | (go_at_call 112;refine(HA.out _ _).mono ?_;rintro e w3 ⟨rfl,rfl⟩;rw[HAL.out]))
   exact⟨rfl,zF2 HR.out HO2.out⟩
  | true =>
   have HR:=zAA (show zCp k t.data.toList=some u by rw[HK.out,if_pos ⟨hc0,ha⟩])
   have HAL:=zAA ha
   have HC0:=zAA hc0
   have HU:=zAA hr
   clear ha hc0 hr
   go_enter func144,ntmps144
   go_wp2_with (first
    | (go_at_call 146;refine HW.out.mono ?_;rintro e w1 ⟨rfl,hb1,ho1⟩;rw[HQ.out,HT.out];have HO1:=zAA ho1;have HB1:=zAA hb1;clear hb1 ho1)
    | (go_at_call 166;refine(HN.out _ (by omega)).mono ?_;rintro e w2 ⟨rfl,ho2⟩;have HO2:=zAA (HO1.out.trans (ho2.mono (by simp)));have HB2:=zAA (show At g s q w2 from by have h:=HB1.out;rw[HQ.out]at h;exact Blk.only h ho2 (by simp));clear ho2)
    | (go_at_call 112;refine(HA.out _ _).mono ?_;rintro e w3 ⟨rfl,rfl⟩;rw[HAL.out]))
   go_ret
   exact zHy HR.out (by rw[HQ.out];exact HB2.out) HO2.out HU.out
end
section

def zEw(J:Nat->Act->World->Prop)(Q:Exit->Act->World->Prop):Exit->Act->World->Prop
 | .goto l,a,w=>J l a w
 | e,a,w=>Q e a w

section
variable {P:Program} {a:Act} {w:World} {Q:Exit->Act->World->Prop}
theorem zEQ{c:Code}(R:Nat->Code)(J:Nat->Act->World->Prop)(μ:Nat->Act->World->Nat)(hf:∀l a w,J l a w->findLabel c l=some (R l))
  (first:c.wp P (zEw J Q) a w)
  (pass:∀l a w,J l a w->(R l).wp P (zEw (fun l' a' w'=>J l' a' w'∧μ l' a' w'<μ l a w) Q) a w):(Code.scope c).wp P Q a w:=by
 intro b k cs
 have hg:∀l a w,J l a w->gotoIn l (.inScope c::k)=some (.code (R l)::.inScope c::k):=fun l a w h=>by simp[gotoIn,hf l a w h]
 have key:∀n l a w,μ l a w=n->J l a w->∃e a' w',Q e a' w'∧Arrives P (lone (b.at a (.code (R l)::.inScope c::k)) cs w) b k cs e a' w':=by
  intro n
  induction n using Nat.strongRecOn with
  | _ n ih =>
   intro l a w hn hJ
   obtain⟨e,a₁,w₁,hq,harr⟩:=pass l a w hJ b (.inScope c::k) cs
   cases e with
   | normal=>exact⟨.normal,a₁,w₁,hq,Steps.trans harr (.one step_inScope)⟩
   | exit id=>exact⟨.exit id,a₁,w₁,hq,fun k' hk=>harr k' (by simp[exitTo,hk])⟩
   | goto l' =>
    obtain⟨hJ',hlt⟩:=hq
    obtain⟨e₂,a₂,w₂,hq₂,harr₂⟩:=ih _ (by omega) l' a₁ w₁ rfl hJ'
    exact⟨e₂,a₂,w₂,hq₂,.of_steps (harr _ (hg l' a₁ w₁ hJ')) harr₂⟩
   | ret=>exact⟨_,a₁,w₁,hq,harr⟩
   | panic ch=>exact⟨_,a₁,w₁,hq,harr⟩
   | outgrown=>exact⟨_,a₁,w₁,hq,harr⟩
 obtain⟨e,a₁,w₁,hq,harr⟩:=first b (.inScope c::k) cs
 cases e with
 | normal=>exact⟨.normal,a₁,w₁,hq,.head step_scope (Steps.trans harr (.one step_inScope))⟩
 | exit id=>exact⟨.exit id,a₁,w₁,hq,fun k' hk=>.head step_scope (harr k' (by simp[exitTo,hk]))⟩
 | goto l' =>
  have hJ':J l' a₁ w₁:=hq
  obtain⟨e₂,a₂,w₂,hq₂,harr₂⟩:=key _ l' a₁ w₁ rfl hJ'
  exact⟨e₂,a₂,w₂,hq₂,.of_steps (.head step_scope (harr _ (hg l' a₁ w₁ hJ'))) harr₂⟩
 | ret=>exact⟨_,a₁,w₁,hq,.of_steps (.one step_scope) harr⟩
 | panic ch=>exact⟨_,a₁,w₁,hq,.of_steps (.one step_scope) harr⟩
 | outgrown=>exact⟨_,a₁,w₁,hq,.of_steps (.one step_scope) harr⟩
def two(J0 J1:Act->World->Prop):Nat->Act->World->Prop
 | 0=>J0
 | 1=>J1
 | _=>fun _ _=>False
def zMq(M0 M1:Act->World->Nat):Nat->Act->World->Nat
 | 0=>M0
 | _=>M1
def zMr(R0 R1:Code):Nat->Code
 | 0=>R0
 | _=>R1
theorem zGi{c:Code}{Q':Exit->Act->World->Prop}(h:c.wp P Q a w)(hq:∀e a w,Q e a w->Q' e a w):c.wp P Q' a w:=by
 intro b k cs
 obtain⟨e,a',w',h1,h2⟩:=h b k cs
 exact⟨e,a',w',hq _ _ _ h1,h2⟩
theorem zE2{c:Code}(h:c.wp P Q a w):(Code.skip.seq c).wp P Q a w:=wp_seq (wp_skip h)
theorem zF3{c R0 R1:Code}(J0 J1:Act->World->Prop)(M1:Act->World->Nat)(h0:findLabel c 0=some (Code.skip.seq R0))(h1:findLabel c 1=some (Code.skip.seq R1))
  (first:(∀J a w,J0 a w->R0.wp P (zEw J Q) a w)->(∀a w,J1 a w->R1.wp P (zEw (two J0 J1) Q) a w)->c.wp P (zEw (two J0 J1) Q) a w)
  (pass0:∀a w,J0 a w->R0.wp P (zEw (fun _ _ _=>False) Q) a w)
  (pass1:(∀J a w,J0 a w->R0.wp P (zEw J Q) a w)->∀a w,J1 a w->R1.wp P (zEw (fun l' a' w'=>two J0 J1 l' a' w'∧zMq (fun _ _=>0) M1 l' a' w'<M1 a w) Q) a w):(Code.scope c).wp P Q a w:=by
 have p0:∀J a w,J0 a w->R0.wp P (zEw J Q) a w:=fun J a w h=>zGi (pass0 a w h) fun e a' w' hq=>by
  cases e<;>first|exact hq|exact hq.elim
 refine zEQ (zMr (Code.skip.seq R0) (Code.skip.seq R1)) (two J0 J1) (zMq (fun _ _=>0) M1) ?_ (first p0 fun a w h=>zGi (pass1 p0 a w h) fun e a' w' hq=>?_) ?_
 ·rintro(_|_|l) a w h
  ·exact h0
  ·exact h1
  ·cases h
 ·cases e<;>first|exact hq|exact hq.1
 ·rintro(_|_|l) a w h
  ·exact zE2 (p0 _ a w h)
  ·exact zE2 (pass1 p0 a w h)
  ·cases h
end
theorem zIv(n:Nat)(a:Act)(hs:a.tmps.size=n)(hd:a.defers=[]):a=⟨((List.range n).map fun i=>a.tmps.getD i undef).toArray,[]⟩:=by
 obtain⟨t,d⟩:=a
 simp only at hs hd
 subst hd
 congr 1
 apply Array.ext
 ·simp[hs]
 ·intro i h1 h2
  simp at h2
  simp[Array.getD_eq_getD_getElem?,Array.getElem?_eq_getElem h1]
end
section
open Go.Proofs.Tryz
open Go.RowKit Go.Deep

theorem zHQ{s:ByteArray}{k:Int}{n:Nat}{parts:List ByteArray}{p q:Nat}{r:Nd}(h:zBM s k n parts p=some (r,q)):q=p+1∧q<=s.size:=by
  unfold zBM at h
  split at h
  · rename_i hp
    split at h
    · simp only[Option.some.injEq,Prod.mk.injEq]at h
      refine⟨h.2.symm,?_⟩
      unfold zAw at hp
      split at hp
      · omega
      · cases hp
    · cases h
  · cases h
theorem zFQ{s:ByteArray}{p:Nat}{c:Int}(h:zAw s p c=true):p<s.size:=by
  unfold zAw at h
  split at h
  · assumption
  · cases h
theorem zMb(s:ByteArray):∀(f:Nat) (m:Option (Int×Nat×List ByteArray)) (p:Nat) (r:Nd) (q:Nat),rd s f m p=some (r,q)->p<q∧q<=s.size:=by
  intro f
  induction f with
  | zero=>intro m p r q h;simp[rd]at h
  | succ f ih =>
    intro m p r q h
    cases m with
    | none =>
      rw[rd]at h
      split at h
      · rename_i hp
        have w1:=zFL s (p+1)
        have w2:=zIm s (p+1) (by omega)
        repeat' split at h
        all_goals first
          | (cases h;done)
          | (simp only[Option.some.injEq,Prod.mk.injEq]at h;omega)
          | (have h1:=zHQ h
             have w3:=zFL s (p+2)
             omega)
          | (have h1:=ih _ _ _ _ h
             have w3:=zFL s (p+2)
             omega)
      · cases h
    | some kp =>
      obtain⟨k,n,parts⟩:=kp
      rw[rd]at h
      split at h
      · cases h
      · rename_i nd q1 hq
        have h1:=ih _ _ _ _ hq
        split at h
        · cases h
        · split at h
          · have h2:=ih _ _ _ _ h
            omega
          · have h2:=zHQ h
            omega
theorem zFR(s:ByteArray)(f:Nat)(k:Int)(n:Nat)(parts:List ByteArray)(p:Nat):rd s (f+1) (some (k,n,parts)) p =
    match rd s f none p with
    | none=>none
    | some (_,q) =>
      if k=6∧parts.length=1∧gtB (parts.getLastD ByteArray.empty) (s.extract p q)=true then none
      else if zAw s q 44=true then rd s f (some (k,n,parts++[s.extract p q])) (q+1)
      else zBM s k n (parts++[s.extract p q]) q:=rfl
def zAq(l:List ByteArray):List Value:=l.map Value.string
theorem zCA(l:List ByteArray)(x:ByteArray):zAq l++[.string x]=zAq (l++[x]):=by simp[zAq]
theorem zBN(l:List ByteArray):(zAq l).length=l.length:=by simp[zAq]
def zFS(g:Nat)(s:ByteArray)(keep:Bool)(r:Option (Nd×Nat))(w:World)(e:Ending)(w':World):Prop :=
  match r with
  | none=>zIn [g] w e w'
  | some (nd,q)=>∃bv pv,e=.returned (.agg #[.int .i64 nd.1,.int .u64 nd.2.1,bv,pv])∧At g s q w'∧Only [g] w w'∧(∀N:List Nat,(∀x∈N,x<w.heap.size)->Rd w' N bv (zBR .u8 (zBo nd.2.2.1))) ∧
      (keep=true->∀N:List Nat,(∀x∈N,x<w.heap.size)->Rd w' N pv (zAq nd.2.2.2))
def Parts(b:Nat)(k:Int)(n:Nat)(bv:Value)(keep:Bool)(parts:List ByteArray)(w w':World):Prop :=
  ∃A l c,Blk w' b 145 #[.int .i64 k,.int .u64 n,bv,.slice A l c]∧(if keep=true then w'.ownsRow w.heap.size 9 1 (.slice A l c) parts.length (zAq parts)else A=none∧l=0∧c=0)
def zFT(g b:Nat)(s:ByteArray)(bv:Value)(keep:Bool)(r:Option (Nd×Nat))(w:World)(e:Ending)(w':World):Prop :=
  match r with
  | none=>zIn [g,b] w e w'
  | some (nd,q)=>e=.returned (.tuple #[])∧At g s q w'∧Only [g,b] w w'∧Parts b nd.1 nd.2.1 bv keep nd.2.2.2 w w'
def zLh(s:ByteArray)(f:Nat):Prop:=∀(w:World) (g p:Nat) (keep:Bool),At g s p w->p<=s.size->s.size<=1000000->2*(s.size-p)+1<=f ->
  Calls prog 131 #[.pointer (some ⟨g,0,none⟩),.bool keep] w (zFS g s keep (rd s f none p) w)
def zMc(s:ByteArray)(f:Nat):Prop:=∀(w:World) (g b p:Nat) (k:Int) (n:Nat) (bv:Value) (keep:Bool),At g s p w->g≠b->Blk w b 145 #[.int .i64 k,.int .u64 n,bv,.slice none 0 0]->p<=s.size->s.size<=1000000 ->
  2*(s.size-p)+2<=f ->
  Calls prog 148 #[.pointer (some ⟨g,0,none⟩),.pointer (some ⟨b,0,none⟩),.bool keep] w (zFT g b s bv keep (if zAw s p 41=true then zBM s k n [] p else rd s f (some (k,n,[])) p) w)
theorem zFU{g b:Nat}{s:ByteArray}{bv:Value}{keep:Bool}{r:Option (Nd×Nat)}{w w':World}(h:r=none)(ho:Only [g,b] w w'):zFT g b s bv keep r w (.panicked [{ v:=.iface 183 (.agg #[]),recovered:=false }]) w':=by
  subst h;exact⟨rfl,ho⟩
theorem zKT{g b:Nat}{s:ByteArray}{bv:Value}{keep:Bool}{r:Option (Nd×Nat)}{w w':World}{k:Int}{n q:Nat}{bs:List UInt8}{parts:List ByteArray}(h:r=some ((k,n,bs,parts),q))(ha:At g s q w')(ho:Only [g,b] w w')(hp:Parts b k n bv keep parts w w') :
    zFT g b s bv keep r w (.returned (.tuple #[])) w':=by
  subst h;exact⟨rfl,ha,ho,hp⟩
end
end Go.Proofs.YtfipdjlalfpbnaaGreatDoor
