/-
  Walks and plain words (texts Ge, Kz, Rt11). No condition beyond those that each theorem states.
-/
import Derived.Test.YtfipdjlalfpbnaaGreatDoorA11
import Derived.Test.YtfipdjlalfpbnaaGreatDoorA12
namespace Go.Proofs.YtfipdjlalfpbnaaGreatDoor
section
open Go.RowKit Go.Deep

def zHX(s:ByteArray)(x:Option (Nd×Nat)):Option (Nd×Nat) :=
 match x with
 | none=>none
 | some (nd,q)=>if atV s q=40 then none else some (nd,q)
theorem zGD{s:ByteArray}{x:Option (Nd×Nat)}{nd:Nd}{q:Nat}(h:zHX s x=some (nd,q)):x=some (nd,q)∧atV s q≠40:=by
 unfold zHX at h
 split at h
 ·cases h
 ·split at h
  ·cases h
  ·rename_i h40
   simp only[Option.some.injEq,Prod.mk.injEq]at h
   obtain⟨rfl,rfl⟩:=h
   exact⟨rfl,h40⟩
theorem zCj(s:ByteArray)(p:Nat)(c:Nat)(hc:c≠0):zAw s p (c:Int)=decide (atV s p=c):=by
 unfold zAw atV
 split
 ·rw[Bool.eq_iff_iff];simp;omega
 ·rw[eq_comm,decide_eq_false_iff_not];omega
theorem zIH{l:List UInt8}(h:(40:UInt8)∈l):(zCT l).2≠0:=by
 unfold zCT
 split
 ·decide
 ·split
  ·decide
  ·rename_i h1
   exact absurd (List.all_eq_false.2 ⟨40,h,by decide⟩) h1
theorem zII{l:List UInt8}(h:(40:UInt8)∈l):(zDv l).2≠0:=by
 unfold zDv
 split
 ·decide
 ·rename_i h1
  exact absurd (List.all_eq_false.2 ⟨40,h,by decide⟩) h1
theorem zE4{k:Int}{l:List UInt8}(h:(40:UInt8)∈l):zCp k l=none:=by
 unfold zCp
 rw[if_neg (by rintro⟨a,_⟩;exact zIH h a)]
theorem zKj(l:List UInt8):(l.takeWhile fun c=>!zId c)=(l.takeWhile fun c=>!del c)∧((l.drop (l.takeWhile fun c=>!del c).length).head?≠some 40) ∨
  (40:UInt8)∈(l.takeWhile fun c=>!zId c)∧(l.drop (l.takeWhile fun c=>!del c).length).head?=some 40:=by
 induction l with
 | nil=>left;simp
 | cons c r ih =>
  by_cases h:del c=true
  ·by_cases h40:c=40
   ·subst h40
    right
    have:zId 40=false:=by decide
    simp[this,h]
   ·left
    have h2:zId c=true:=by
     unfold del at h
     unfold zId
     simp only[Bool.or_eq_true,beq_iff_eq]at h ⊢
     rcases h with h|h
     ·exact h
     ·exact absurd h h40
    simp[h,h2,h40]
  ·have h1:del c=false:=by simpa using h
   have h2:zId c=false:=by
    unfold del at h1
    unfold zId
    simp only[Bool.or_eq_false_iff]at h1 ⊢
    exact h1.1
   rw[List.takeWhile_cons_of_pos (by rw[h2];rfl),List.takeWhile_cons_of_pos (by rw[h1];rfl)]
   rcases ih with ⟨a,b⟩|⟨a,b⟩
   ·left;rw[a];exact⟨rfl,by simpa using b⟩
   ·right;exact⟨List.mem_cons_of_mem _ a,by simpa using b⟩
theorem zLw(s:ByteArray)(p:Nat):atV s p=40↔(s.data.toList.drop p).head?=some 40:=by
 unfold atV
 split
 ·rename_i h
  rw[zBp s p h]
  simp only[List.head?_cons,Option.some.injEq]
  constructor
  ·intro e;exact UInt8.toNat_inj.1 e
  ·intro e;rw[e];rfl
 ·rename_i h
  rw[List.drop_of_length_le (by simpa using h)]
  simp
theorem zFf(s:ByteArray)(p n:Nat):(s.extract p (p+n)).data.toList=(s.data.toList.drop p).take n:=by
 rw[ByteArray.data_extract,Array.toList_extract]
 simp[List.extract]
theorem zCy(l:List UInt8)(f:UInt8->Bool):l.take (l.takeWhile f).length=l.takeWhile f:=by
 induction l with
 | nil=>rfl
 | cons c r ih =>
  by_cases h:f c=true
  ·rw[List.takeWhile_cons_of_pos h];simp[ih]
  ·rw[List.takeWhile_cons_of_neg h];rfl
theorem zHY(s:ByteArray)(p:Nat):(zA8 s p=zBV s p∧atV s (zBV s p)≠40)∨((40:UInt8)∈(s.extract p (zA8 s p)).data.toList∧atV s (zBV s p)=40):=by
 unfold zA8 zBV
 rw[zFf,zCy,Ne,zLw]
 rcases zKj (s.data.toList.drop p)with ⟨a,b⟩|⟨a,b⟩
 ·left
  refine⟨by rw[a],?_⟩
  rw[List.drop_drop]at b
  exact b
 ·right
  refine⟨a,?_⟩
  rw[List.drop_drop]at b
  exact b
theorem zIJ{k c:Int}(h:5<=k)(h2:k<=11)(hc:1<=c):zBF k c=zBc k c:=by
 rcases(show k=5∨k=6∨k=7∨k=8∨k=9∨k=10∨k=11 by omega)with rfl|rfl|rfl|rfl|rfl|rfl|rfl
 all_goals
  simp only[zBF,zBc,zDV,zEt]
  rw[Bool.eq_iff_iff]
  simp
  try omega
theorem zEd{k:Int}(h:5<=k)(h2:k<=11):zBF k 0=decide (k=11):=by
 rcases(show k=5∨k=6∨k=7∨k=8∨k=9∨k=10∨k=11 by omega)with rfl|rfl|rfl|rfl|rfl|rfl|rfl
 all_goals decide
theorem zEe(c:Int):0<=zAQ c∧zAQ c<=11:=by
 unfold zAQ
 repeat' split
 all_goals omega
theorem zLx(s:ByteArray):∀(f n:Nat) (parts:List ByteArray) (p:Nat),2<=parts.length->rt s f (some (6,n,parts)) p=none:=by
 intro f
 induction f with
 | zero=>intros;rfl
 | succ f ih =>
  intro n parts p hp
  rw[rt]
  split
  ·rfl
  ·split
   ·rw[if_neg]
    rintro⟨h,_⟩
    have:=of_decide_eq_true (show decide (((parts.length+1:Nat):Int)=2)=true from h)
    omega
   ·split
    ·rfl
    ·exact ih _ _ _ (by rw[List.length_append];simp;omega)
theorem zKk(s:ByteArray)(f:Nat)(k:Int)(n:Nat)(p:Nat)(h:atV s p=41):rt s f (some (k,n,[])) p=none:=by
 cases f with
 | zero=>rfl
 | succ f =>
  rw[rt]
  cases f with
  | zero=>rfl
  | succ f=>rw[rt,if_pos (by rw[h];decide)]
theorem zEG(a b:ByteArray):([a]++[b]).getD 0 ByteArray.empty=a∧([a]++[b]).getD 1 ByteArray.empty=b:=⟨rfl,rfl⟩
theorem zLy(s:ByteArray):∀(f:Nat) (m:Option (Int×Nat×List ByteArray)) (p:Nat),(∀k n l,m=some (k,n,l)->5<=k∧k<=11)->zHX s (rt s f m p)=zHX s (rd s f m p):=by
 intro f
 induction f with
 | zero=>intro m p _;rfl
 | succ f ih =>
  intro m p hm
  have hrest:∀(k:Int) (n:Nat) (j:Nat),5<=k->k<=11->zHX s (if k=11∧atV s j=41 then some ((11,n,[],[]),j+1)else rt s f (some (k,n,[])) j) =
    zHX s (if zAw s j 41=true then zBM s k n [] j else rd s f (some (k,n,[])) j):=by
   intro k n j h5 h11
   rw[show(41:Int)=((41:Nat):Int)from rfl,zCj s j 41 (by decide)]
   by_cases h41:atV s j=41
   ·rw[if_pos (show decide (atV s j=41)=true from decide_eq_true h41)]
    unfold zBM
    rw[show(41:Int)=((41:Nat):Int)from rfl,zCj s j 41 (by decide),if_pos (decide_eq_true h41)]
    rw[show(([]:List ByteArray).length:Int)=0 from rfl,zEd h5 h11]
    by_cases h:k=11
    ·subst h;rw[if_pos ⟨rfl,h41⟩,if_pos (by decide)]
    ·rw[if_neg (by rintro⟨a,_⟩;exact h a),if_neg (by rw[decide_eq_false h];decide),zKk s f k n j h41]
   ·rw[if_neg (by rintro⟨_,a⟩;exact h41 a),if_neg (by rw[decide_eq_false h41];decide)]
    exact ih _ _ (by intro k' n' l' e;cases e;exact⟨h5,h11⟩)
  cases m with
  | none =>
   rw[rt,rd]
   by_cases hp:p<s.size
   ·have hat:atV s p=s[p].toNat:=by unfold atV;rw[dif_pos hp]
    rw[dif_pos hp,hat]
    have hkr:=zEe (s[p].toNat:Int)
    generalize zAQ (s[p].toNat:Int)=k at *
    by_cases h0:k=0
    ·rw[if_pos h0,if_pos h0]
    rw[if_neg h0,if_neg h0]
    by_cases h4:k<=4
    ·rw[if_pos h4]
     unfold zCq
     by_cases h1:k=1
     ·rw[if_pos h1,if_pos h1]
     rw[if_neg h1,if_neg h1]
     have ww:=zHY s (p+1)
     by_cases h23:k=2∨k=3
     ·rw[if_pos h23,if_neg (by omega)]
      rcases ww with ⟨a,b⟩|⟨a,b⟩
      ·rw[a]
       try (cases zCp k (s.extract (p+1) (zBV s (p+1))).data.toList<;>rfl)
      ·rw[zE4 a]
       simp only
       cases zCp k (s.extract (p+1) (zBV s (p+1))).data.toList with
       | none=>rfl
       | some n=>unfold zHX;simp only;rw[if_pos b]
     ·have h4':k=4:=by omega
      rw[if_neg h23,if_pos h4',if_pos h4']
      rcases ww with ⟨a,b⟩|⟨a,b⟩
      ·rw[a]
      ·rw[if_neg (zII a)]
       split
       ·unfold zHX;simp only;rw[if_pos b]
       ·rfl
    rw[if_neg h4,if_neg (show ¬k=1 by omega),if_neg (show ¬(k=2∨k=3)by omega),if_neg (show ¬k=4 by omega)]
    rw[show(40:Int)=((40:Nat):Int)from rfl,zCj s (p+1) 40 (by decide)]
    by_cases h40:atV s (p+1)=40
    ·rw[if_neg (show ¬(atV s (p+1)≠40)by rw[h40];simp),if_neg (show ¬(decide (atV s (p+1)=40)=false)by rw[decide_eq_true h40];decide)]
     have hnb:zAK k=decide (k=8∨k=10):=by
      unfold zAK
      rw[Bool.eq_iff_iff]
      simp
      omega
     rw[hnb]
     by_cases h8:k=8∨k=10
     ·rw[if_pos h8,if_pos (decide_eq_true h8)]
      rcases zHY s (p+2)with ⟨a,b⟩|⟨a,b⟩
      ·rw[a]
       cases zCp k (s.extract (p+2) (zBV s (p+2))).data.toList with
       | none=>rfl
       | some n =>
        simp only
        rw[show(44:Int)=((44:Nat):Int)from rfl,zCj s _ 44 (by decide)]
        by_cases h44:atV s (zBV s (p+2))=44
        ·rw[if_neg (by rw[h44];simp),if_neg (by rw[decide_eq_true h44];decide)]
         have h:=hrest k n (zBV s (p+2)+1) (by omega) (by omega)
         rw[if_neg (by omega)]at h
         exact h
        ·rw[if_pos h44,if_pos (decide_eq_false h44)]
      ·rw[zE4 a]
       simp only
       cases zCp k (s.extract (p+2) (zBV s (p+2))).data.toList with
       | none=>rfl
       | some n =>
        simp only
        rw[show(44:Int)=((44:Nat):Int)from rfl,zCj s _ 44 (by decide),if_pos (by rw[b];decide)]
     ·rw[if_neg h8,if_neg (show ¬(decide (k=8∨k=10)=true)by rw[decide_eq_false h8];decide)]
      exact hrest k 0 (p+2) (by omega) (by omega)
    ·rw[if_pos h40,if_pos (decide_eq_false h40)]
   ·have hat:atV s p=0:=by unfold atV;rw[dif_neg hp]
    rw[dif_neg hp,hat,if_pos (by decide)]
  | some kp =>
   obtain⟨k,n,parts⟩:=kp
   obtain⟨h5,h11⟩:=hm _ _ _ rfl
   have h0:=ih none p (by intro _ _ _ e;cases e)
   rw[rt,zFR]
   cases hg:zHX s (rd s f none p)with
   | none =>
    rw[hg]at h0
    have hA:∀x,zHX s x=none->x=none∨∃nd q,x=some (nd,q)∧atV s q=40:=by
     intro x hx
     cases x with
     | none=>exact .inl rfl
     | some y =>
      obtain⟨nd,q⟩:=y
      right
      refine⟨nd,q,rfl,?_⟩
      unfold zHX at hx
      simp only at hx
      split at hx
      ·assumption
      ·cases hx
    have e1:zHX s (match rd s f none p with
      | none=>none
      | some (_,q) =>
       if k=6∧parts.length=1∧gtB (parts.getLastD ByteArray.empty) (s.extract p q)=true then none
       else if zAw s q 44=true then rd s f (some (k,n,parts++[s.extract p q])) (q+1)
       else zBM s k n (parts++[s.extract p q]) q)=none:=by
     rcases hA _ hg with h|⟨nd,q,h,hq⟩
     ·rw[h];rfl
     ·rw[h]
      simp only
      split
      ·rfl
      ·rw[show(44:Int)=((44:Nat):Int)from rfl,zCj s q 44 (by decide),if_neg (by rw[hq];decide)]
       unfold zBM
       rw[show(41:Int)=((41:Nat):Int)from rfl,zCj s q 41 (by decide),if_neg (by rw[hq];decide)]
       rfl
    refine Eq.trans ?_ e1.symm
    rcases hA _ h0 with h|⟨nd,q,h,hq⟩
    ·rw[h];rfl
    ·rw[h];simp only;rw[if_neg (show ¬atV s q=41 by rw[hq];decide),if_pos (show atV s q≠44 by rw[hq];decide)];rfl
   | some y =>
    obtain⟨nd,q⟩:=y
    rw[hg]at h0
    obtain⟨e1,hq⟩:=zGD h0
    obtain⟨e2,_⟩:=zGD hg
    rw[e1,e2]
    simp only
    unfold zBM
    rw[show(44:Int)=((44:Nat):Int)from rfl,show(41:Int)=((41:Nat):Int)from rfl,zCj s q 44 (by decide),zCj s q 41 (by decide)]
    have hlen:(parts++[s.extract p q]).length=parts.length+1:=by simp
    rw[hlen,zIJ h5 h11 (by omega)]
    by_cases hgt:k=6∧parts.length=1∧gtB (parts.getLastD ByteArray.empty) (s.extract p q)=true
    ·rw[if_pos hgt]
     obtain⟨rfl,hl,hgt⟩:=hgt
     obtain⟨a,rfl⟩:∃a,parts=[a]:=by
      cases parts with
      | nil=>simp at hl
      | cons a r=>cases r with
       | nil=>exact⟨a,rfl⟩
       | cons b r=>simp at hl
     rw[(zEG a _).1,(zEG a _).2]
     rw[if_neg (show ¬(zBc 6 _=true∧_)by rintro⟨_,h⟩;exact h ⟨rfl,hgt⟩),zLx s f n _ _ (by simp)]
     split
     ·rfl
     ·split<;>rfl
    ·rw[if_neg hgt]
     by_cases h41:atV s q=41
     ·rw[if_pos h41,if_neg (show ¬(decide (atV s q=44)=true)by rw[h41];decide),if_pos (show decide (atV s q=41)=true by rw[h41];decide)]
      by_cases hr:zBc k ((parts.length+1:Nat):Int)=true
      ·rw[if_pos hr,if_pos]
       refine⟨hr,?_⟩
       rintro⟨rfl,hh⟩
       have hl:=of_decide_eq_true (show decide (((parts.length+1:Nat):Int)=2)=true from hr)
       obtain⟨a,rfl⟩:∃a,parts=[a]:=by
        cases parts with
        | nil=>simp at hl
        | cons a r=>cases r with
         | nil=>exact⟨a,rfl⟩
         | cons b r=>simp at hl;omega
       rw[(zEG a _).1,(zEG a _).2]at hh
       exact hgt ⟨rfl,rfl,hh⟩
      ·rw[if_neg hr,if_neg (by rintro⟨h,_⟩;exact hr h)]
     ·rw[if_neg h41]
      by_cases h44:atV s q=44
      ·rw[if_neg (by rw[h44];simp),if_pos (decide_eq_true h44)]
       exact ih _ _ (by intro k' n' l' e;cases e;exact⟨h5,h11⟩)
      ·rw[if_pos h44,if_neg (show ¬(decide (atV s q=44)=true)by rw[decide_eq_false h44];decide),if_neg (show ¬(decide (atV s q=41)=true)by rw[decide_eq_false h41];decide)]
theorem zKl(s:ByteArray)(f:Nat):(match rt s f none 0 with|none=>none|some (nd,q)=>if q=s.size then some nd else none)=(match rd s f none 0 with|none=>(none:Option Nd)|some (nd,q)=>if q=s.size then some nd else none):=by
 have h:=zLy s f none 0 (by intro _ _ _ e;cases e)
 have key:∀x:Option (Nd×Nat),(match x with|none=>(none:Option Nd)|some (nd,q)=>if q=s.size then some nd else none)=(match zHX s x with|none=>none|some (nd,q)=>if q=s.size then some nd else none):=by
  intro x
  cases x with
  | none=>rfl
  | some y =>
   obtain⟨nd,q⟩:=y
   unfold zHX
   simp only
   by_cases hq:atV s q=40
   ·rw[if_pos hq]
    simp only
    rw[if_neg]
    intro e
    have:=zCC (s:=s) (p:=q) (by rw[hq];decide)
    omega
   ·rw[if_neg hq]
 refine(key _).trans (Eq.trans ?_ (key _).symm)
 rw[h]
end
section
open Go.RowKit Go.Deep

theorem zEf{c:Int}(h:zAQ c≠0):1<=zAQ c:=by
 unfold zAQ at h ⊢
 repeat' split
 all_goals first
  | omega
  | (simp_all;done)
theorem zHZ{s:ByteArray}{k:Int}{n:Nat}{l:List ByteArray}{p q:Nat}{nd:Nd}(hk:1<=k)(h:zBM s k n l p=some (nd,q)):1<=nd.1:=by
 unfold zBM at h
 by_cases h1:zAw s p 41=true
 ·rw[if_pos h1]at h
  by_cases h2:zBF k l.length=true
  ·rw[if_pos h2]at h
   obtain⟨e,_⟩:=Prod.mk.inj (Option.some.inj h)
   subst e
   exact hk
  ·rw[if_neg h2]at h;cases h
 ·rw[if_neg h1]at h;cases h
theorem zEg{k:Int}{n q q':Nat}{b:List UInt8}{l:List ByteArray}{nd:Nd}(hk:1<=k)(h:some (((k,n,b,l):Nd),q')=some (nd,q)):1<=nd.1:=by
 obtain⟨e,_⟩:=Prod.mk.inj (Option.some.inj h)
 subst e
 exact hk
theorem zLz(s:ByteArray):∀(f:Nat) (m:Option (Int×Nat×List ByteArray)) (p:Nat) (nd:Nd) (q:Nat),(∀x,m=some x->1<=x.1)->rd s f m p=some (nd,q)->1<=nd.1:=by
 intro f
 induction f with
 | zero=>intro m p nd q _ h;cases m<;>(simp only[rd]at h;cases h)
 | succ f ih =>
  have ih2:∀(k:Int) (n:Nat) (l:List ByteArray) (p:Nat) (nd:Nd) (q:Nat),1<=k->rd s f (some (k,n,l)) p=some (nd,q)->1<=nd.1:=fun k n l p nd q hk h=>ih _ p nd q (fun x hx=>by cases hx;exact hk) h
  intro m p nd q hm h
  cases m with
  | none =>
   rw[rd]at h
   repeat' (split at h)
   all_goals first
    | (cases h;done)
    | exact ih2 _ _ _ _ _ _ (zEf (by assumption)) h
    | exact zHZ (zEf (by assumption)) h
    | exact zEg (zEf (by assumption)) h
    | exact zEg (k:=1) (by omega) h
    | exact zEg (k:=4) (by omega) h
  | some x =>
   obtain⟨k,n,parts⟩:=x
   have hk:1<=k:=hm _ rfl
   rw[rd]at h
   repeat' (split at h)
   all_goals first
    | (cases h;done)
    | exact ih2 _ _ _ _ _ _ hk h
    | exact zHZ hk h
theorem zEH{s:ByteArray}{k:Int}{n:Nat}{b:List UInt8}{l:List ByteArray}(h:zAE s=some (k,n,b,l)):1<=k:=by
 unfold zAE at h
 split at h
 ·cases h
 ·split at h
  ·cases h
  ·rename_i nd q hr
   split at h
   ·injection h with h
    have:=zLz s _ none 0 nd q (by simp) hr
    rw[h]at this
    exact this
   ·cases h
end
section
open Go.Proofs.Tryz
set_option maxHeartbeats 3200000
set_option maxRecDepth 100000
open Go.RowKit Go.Deep

theorem zJG(s:ByteArray):∀f,zEc s f:=by
 intro f
 induction f using Nat.strongRecOn with
 | _ f ih =>
  cases f with
  | zero=>intro w p _ _ h;omega
  | succ f =>
   intro w p hp hs hf
   have hT:∀f',f'<=f->zEc s f':=fun f' h=>ih f' (by omega)
   by_cases h4:zAQ (atV s p:Nat)<=4∨atV s (p+1)≠40
   ·exact zID s f w p hp hs h4
   ·have hk5:5<=zAQ (atV s p:Nat):=by
     apply Decidable.byContradiction
     intro h
     exact h4 (.inl (by omega))
    have h40:atV s (p+1)=40:=by
     apply Decidable.byContradiction
     intro h
     exact h4 (.inr h)
    by_cases h8:zAQ (atV s p:Nat)=8
    ·exact zIE s f hT w p hp hs hf hk5 h8 h40
    by_cases h10:zAQ (atV s p:Nat)=10
    ·exact zGr s f hT w p hp hs hf hk5 h10 h40
    by_cases h6:zAQ (atV s p:Nat)=6
    ·exact zIG s f hT w p hp hs hf hk5 h6 h40
    by_cases h11:zAQ (atV s p:Nat)=11
    ·exact zGs s f hT w p hp hs hf hk5 h11 h40
    exact zIF s f hT w p hp hs hf hk5 h8 h10 h6 h11 h40

def zBW(r:Option Nd)(w:World)(e:Ending)(w':World):Prop :=
 match r with
 | none=>e=.returned nd0∧Only [] w w'
 | some nd=>∃bv pv,e=.returned (.agg #[.int .i64 nd.1,.int .u64 nd.2.1,bv,pv])∧Only [] w w' ∧
   (∀N:List Nat,(∀x∈N,x<w.heap.size)->Rd w' N bv (zBR .u8 (zBo nd.2.2.1)))∧(∀N:List Nat,(∀x∈N,x<w.heap.size)->Rd w' N pv (zAq nd.2.2.2))
theorem zEI{r:Option Nd}{w w':World}(h:r=none)(ho:Only [] w w'):zBW r w (.returned (.agg #[.int .i64 0,.int .u64 0,.slice none 0 0,.slice none 0 0])) w':=by
 subst h;exact⟨rfl,ho⟩
theorem zJH{r:Option Nd}{w w':World}{k:Int}{n:Nat}{bs:List UInt8}{parts:List ByteArray}{bv pv:Value}(h:r=some (k,n,bs,parts))(ho:Only [] w w')
  (hb:∀N:List Nat,(∀x∈N,x<w.heap.size)->Rd w' N bv (zBR .u8 (zBo bs))) (hp:∀N:List Nat,(∀x∈N,x<w.heap.size)->Rd w' N pv (zAq parts)) :
  zBW r w (.returned (.agg #[.int .i64 k,.int .u64 n,bv,pv])) w':=by
 subst h;exact⟨_,_,rfl,ho,hb,hp⟩
theorem zJI{_w w':World}{B:Nat}{N:List Nat}{v a b c d:Value}{l:List Value}(h:∀N:List Nat,(∀x∈N,x<=B)->Rd w' N v l)(hB:∀x∈N,x<B) :
  Rd ((((w'.setCell ⟨B,0,none⟩ a).setCell ⟨B,1,none⟩ b).setCell ⟨B,2,none⟩ c).setCell ⟨B,3,none⟩ d) N v l :=
 ((h (B::N) (by intro x hx;rcases List.mem_cons.1 hx with rfl|hx;exact Nat.le_refl _;exact Nat.le_of_lt (hB x hx))).only (zAV (Only.refl [B] w') (.inl (by simp))) (fun x hx=>by rw[List.mem_singleton.1 hx];exact List.mem_cons_self)).less (fun x hx=>List.mem_cons_of_mem _ hx)

theorem zGE(w:World)(s:ByteArray)(hs:s.size<=1000000):Calls prog 39 #[.string s] w (zBW (zAE s) w):=by
 have HB:=zAA (Blk.new w 77 zBG)
 have HO:=zAA ((Only.refl [] w).alloc (.cells zBG 77))
 unfold zBG at HB HO
 by_cases hlt:65536<s.size
 ·have hltI:(65536:Int)<s.size:=by omega
  have HR:=zAA (show zAE s=none by unfold zAE;rw[if_pos hlt])
  clear hlt
  go_enter func39,ntmps39
  go_wp2_with fail
  refine bodyPost_ret (results_cell_row rfl _ _ w.heap.size 77 _ (0,0) _ rfl HB.out underlying77 rfl (by kernel_rfl)) rfl ?_
  exact zEI HR.out HO.out
 ·have hltI:¬(65536:Int)<s.size:=by omega
  have HT:=zAA (fun W=>zJG s (2*s.size+2) W 0 (Nat.zero_le _) hs (by omega))
  have HV:=zAA (show zAE s=match rt s (2*s.size+2) none 0 with|none=>none|some (nd,q)=>if q=s.size then some nd else none by
   refine Eq.trans ?_ (zKl s (2*s.size+2)).symm;unfold zAE;rw[if_neg hlt];rfl)
  unfold zAe at HT
  have hz:((0:Nat):Int)=0:=rfl
  rw[hz]at HT
  clear hz hlt
  have c0:=HB.out.cell 0
  have c1:=HB.out.cell 1
  have c2:=HB.out.cell 2
  have c3:=HB.out.cell 3
  simp at c0 c1 c2 c3
  have cf:=HB.out.frozen
  cases hr:rt s (2*s.size+2) none 0 with
  | none =>
   have HR:=zAA (show zAE s=none by rw[HV.out,hr])
   rw[hr]at HT
   simp only at HT
   have hq:((-1:Int) != (s.size:Int))=true:=by rw[bne_iff_ne];omega
   clear hr HV
   go_enter func39,ntmps39
   go_wp2_with (go_at_call 97;refine(HT.out _).mono ?_;rintro e w2 ⟨rfl,ho⟩;have HO:=zAA ((HO.out.trans ho).alloc (.cells #[.int .i64 0,.int .u64 0,.slice none 0 0,.slice none 0 0] 77));have HB:=zAA ((HB.out.only ho (by simp)).alloc (.cells #[.int .i64 0,.int .u64 0,.slice none 0 0,.slice none 0 0] 77));clear ho c0 c1 c2 c3 cf;have c0:=HB.out.cell 0;have c1:=HB.out.cell 1;have c2:=HB.out.cell 2;have c3:=HB.out.cell 3;simp at c0 c1 c2 c3;have cf:=HB.out.frozen)
   refine bodyPost_ret (results_cell_row rfl _ _ w.heap.size 77 _ (0,0) _ rfl ((((HB.out.set_ 0 _).set_ 1 _).set_ 2 _).set_ 3 _) underlying77 rfl (by kernel_rfl)) rfl ?_
   exact zEI HR.out (zAV HO.out (.inr (Nat.le_refl _)))
  | some r =>
   obtain⟨⟨k,n,bs,parts⟩,q⟩:=r
   rw[hr]at HT
   simp only at HT
   by_cases hq:q=s.size
   ·have HR:=zAA (show zAE s=some (k,n,bs,parts)by rw[HV.out,hr];simp only;rw[if_pos hq])
    have hqb:((q:Int) != (s.size:Int))=false:=by rw[bne_eq_false_iff_eq];omega
    clear hr HV hq
    go_enter func39,ntmps39
    go_wp2_with (go_at_call 97;refine(HT.out _).mono ?_;rintro e w2 ⟨bv,pv,rfl,ho,hb,hp⟩;obtain⟨A1,cap1,rfl,_,_⟩:=(hb [] (by simp)).formb;obtain⟨A2,cap2,rfl,_,_⟩:=(hp [] (by simp)).form;have HRB:=zAA hb;have HRP:=zAA hp;have HSZ:=zAA ho.size;have HN:=zAA (Blk.new w2 77 #[.int .i64 k,.int .u64 n,.slice A1 bs.length cap1,.slice A2 (zAq parts).length cap2]);have HO:=zAA ((HO.out.trans ho).alloc (.cells #[.int .i64 k,.int .u64 n,.slice A1 bs.length cap1,.slice A2 (zAq parts).length cap2] 77));have HB:=zAA ((HB.out.only ho (by simp)).alloc (.cells #[.int .i64 k,.int .u64 n,.slice A1 bs.length cap1,.slice A2 (zAq parts).length cap2] 77));clear ho c0 c1 c2 c3 cf hb hp;have c0:=HB.out.cell 0;have c1:=HB.out.cell 1;have c2:=HB.out.cell 2;have c3:=HB.out.cell 3;have d0:=HN.out.cell 0;have d1:=HN.out.cell 1;have d2:=HN.out.cell 2;have d3:=HN.out.cell 3;simp at c0 c1 c2 c3 d0 d1 d2 d3;have cf:=HB.out.frozen)
    refine bodyPost_ret (results_cell_row rfl _ _ w.heap.size 77 _ (0,0) _ rfl ((((HB.out.set_ 0 _).set_ 1 _).set_ 2 _).set_ 3 _) underlying77 rfl (by kernel_rfl)) rfl ?_
    refine zJH HR.out (zAV HO.out (.inr (Nat.le_refl _))) (fun N hN=>zJI (_w:=w) (fun N hN=>(HRB.out N (fun x hx=>by have:=hN x hx;simp;omega)).only ((Only.refl [] _).alloc _) (by simp)) hN) (fun N hN=>zJI (_w:=w) (fun N hN=>(HRP.out N (fun x hx=>by have:=hN x hx;simp;omega)).only ((Only.refl [] _).alloc _) (by simp)) hN)
   ·have HR:=zAA (show zAE s=none by rw[HV.out,hr];simp only;rw[if_neg hq])
    have hqb:((q:Int) != (s.size:Int))=true:=by rw[bne_iff_ne];omega
    clear hr HV hq
    go_enter func39,ntmps39
    go_wp2_with (go_at_call 97;refine(HT.out _).mono ?_;rintro e w2 ⟨bv,pv,rfl,ho,hb,hp⟩;obtain⟨A1,cap1,rfl,_,_⟩:=(hb [] (by simp)).formb;obtain⟨A2,cap2,rfl,_,_⟩:=(hp [] (by simp)).form;have HO:=zAA ((HO.out.trans ho).alloc (.cells #[.int .i64 k,.int .u64 n,.slice A1 bs.length cap1,.slice A2 (zAq parts).length cap2] 77));have HB:=zAA ((HB.out.only ho (by simp)).alloc (.cells #[.int .i64 k,.int .u64 n,.slice A1 bs.length cap1,.slice A2 (zAq parts).length cap2] 77));clear ho c0 c1 c2 c3 cf hb hp;have c0:=HB.out.cell 0;have c1:=HB.out.cell 1;have c2:=HB.out.cell 2;have c3:=HB.out.cell 3;simp at c0 c1 c2 c3;have cf:=HB.out.frozen)
    refine bodyPost_ret (results_cell_row rfl _ _ w.heap.size 77 _ (0,0) _ rfl ((((HB.out.set_ 0 _).set_ 1 _).set_ 2 _).set_ 3 _) underlying77 rfl (by kernel_rfl)) rfl ?_
    exact zEI HR.out (zAV HO.out (.inr (Nat.le_refl _)))
end
end Go.Proofs.YtfipdjlalfpbnaaGreatDoor
