/-
  Walks and plain words (texts Tz). No condition beyond those that each theorem states.
-/
import Derived.Test.YtfipdjlalfpbnaaGreatDoorA30
namespace Go.Proofs.YtfipdjlalfpbnaaGreatDoor
section
open Go.RowKit Go.Deep

theorem zLZ(k:Int)(n:Nat)(hn:n<18446744073709551616)(b:List UInt8)(l:List ByteArray)(h5:5<=k):(zA5 k n b l).length<=zCr l+24:=by
 have h1:=zJn l
 have h2:=zCP n hn
 unfold zA5
 rw[if_neg (by omega),if_neg (by omega),if_neg (by omega)]
 split
 ·split<;>simp only[List.length_cons,List.length_append,List.length_nil]<;>omega
 ·simp only[List.length_cons,List.length_append,List.length_nil]
  omega
theorem zHm(k:Int)(l:List ByteArray)(h:k=6->l.length=2):zCr (zAZ k l)=zCr l:=by
 by_cases h6:k=6
 ·match l,h h6 with
  | [x,y],_ =>
   unfold zAZ
   split
   ·show y.size+1+(x.size+1+0)=x.size+1+(y.size+1+0)
    omega
   ·rfl
 ·rw[zBH h6]
theorem zMH{k:Int}{n:Nat}(b:List UInt8){l:List ByteArray}(h5:5<=k)(h11:k<=11)(hn:n<18446744073709551616)(h2:zAK k=true->zAW k n=true)(h3:zBF k l.length=true)
  (h4:∀p∈l,(zAE p).isSome=true) (hs:zCr l<=65000):zAS k n b l=zAD (zA5 k n b (zAZ k l)):=by
 refine zG1 ⟨by omega,h11⟩ h2 h3 (fun j hj=>?_) ?_
 ·have h:=h4 (l.getD j ByteArray.empty) (by rw[List.getD_eq_getElem?_getD,List.getElem?_eq_getElem hj];exact List.getElem_mem hj)
  obtain⟨nd,h1⟩:=Option.isSome_iff_exists.1 h
  have h6:=zEH (k:=nd.1) (n:=nd.2.1) (b:=nd.2.2.1) (l:=nd.2.2.2) h1
  unfold zAg
  rw[h1]
  show nd.1≠0
  omega
 ·have h6:=zLZ k n hn b (zAZ k l) h5
  rw[zHm k l (fun h=>by subst h;obtain⟨p,q,rfl⟩:=zFs h3;rfl)]at h6
  omega
def Tn(N:Nat)(s:ByteArray):Prop:=(zAE s).isSome=true∧s.size<=N
theorem Tn.mono{M N:Nat}{s:ByteArray}(h:Tn M s)(hn:M<=N):Tn N s:=⟨h.1,Nat.le_trans h.2 hn⟩
theorem Tn.ne{N:Nat}{s:ByteArray}(h:Tn N s):s≠ByteArray.empty:=by
 rintro rfl
 have h1:=h.1
 rw[show zAE ByteArray.empty=none from by kernel_rfl]at h1
 cases h1
theorem zMI{k:Int}{n:Nat}{b:List UInt8}{l:List ByteArray}(h5:5<=k)(h11:k<=11)(hn:n<18446744073709551616)(h2:zAK k=true->zAW k n=true)(h3:zBF k l.length=true)
  (h4:∀p∈l,(zAE p).isSome=true) (N:Nat) (hs:zCr l+24<=N) (hN:N<=65000):Tn N (zAS k n b l):=by
 have he:=zMH b h5 h11 hn h2 h3 h4 (by omega)
 have hne:zAS k n b l≠ByteArray.empty:=by rw[he];exact zHh (zLY _ _ _ _)
 refine⟨by rw[zC2 hn hne];rfl,?_⟩
 rw[he,zAF]
 have h6:=zLZ k n hn b (zAZ k l) h5
 rw[zHm k l (fun h=>by subst h;obtain⟨p,q,rfl⟩:=zFs h3;rfl)]at h6
 omega
section
variable {a c d:Nat} {x y z:ByteArray}
theorem zMJ(n:Nat)(hn:n<18446744073709551616)(hx:Tn a x)(hy:Tn c y)(hz:Tn d z)(h:a+c+d<=60000):Tn (a+c+d+27) (zAS 10 n [] [x,y,z]) :=
 zMI (by omega) (by omega) hn (fun _=>by unfold zAW;rw[if_neg (by decide),if_neg (by decide)]) (by show zBF 10 3=true;decide) (by intro p hp;simp at hp;rcases hp with rfl|rfl|rfl;exact hx.1;exact hy.1;exact hz.1) _ (by have:=hx.2;have:=hy.2;have:=hz.2;show x.size+1+(y.size+1+(z.size+1+0))+24<=a+c+d+27;omega) (by omega)
end
end
end Go.Proofs.YtfipdjlalfpbnaaGreatDoor
