/-
  Walks and plain words (texts Gq, Tv, Tw, Wa). No condition beyond those that each theorem states.
-/
import Derived.Test.YtfipdjlalfpbnaaGreatDoorA15
namespace Go.Proofs.YtfipdjlalfpbnaaGreatDoor
section
open Go.RowKit Go.Deep

theorem zEi:∀a b:List UInt8,Op.bytesLess a b=true->Op.bytesLess b a=false
 | _,[],h=>by simp[Op.bytesLess]at h
 | [],_::_,_=>rfl
 | a::x,b::y,h=>by
  simp only[Op.bytesLess,Bool.or_eq_true,decide_eq_true_eq,Bool.and_eq_true,beq_iff_eq]at h
  simp only[Op.bytesLess,Bool.or_eq_false_iff,decide_eq_false_iff_not,Bool.and_eq_false_imp,beq_iff_eq]
  rcases h with h|⟨rfl,h⟩
  ·refine⟨?_,?_⟩
   ·intro h2
    have h3:a.toNat<b.toNat:=h
    have h4:b.toNat<a.toNat:=h2
    omega
   ·rintro rfl
    have h3:b.toNat<b.toNat:=h
    omega
  ·refine⟨?_,fun _=>zEi x y h⟩
   intro h2
   have h3:a.toNat<a.toNat:=h2
   omega
theorem zE6:∀a b:List UInt8,Op.bytesLess a b=false->Op.bytesLess b a=false->a=b
 | [],[],_,_=>rfl
 | [],_::_,h,_=>by simp[Op.bytesLess]at h
 | _::_,[],_,h=>by simp[Op.bytesLess]at h
 | a::x,b::y,h,h2=>by
  simp only[Op.bytesLess,Bool.or_eq_false_iff,decide_eq_false_iff_not,Bool.and_eq_false_imp,beq_iff_eq]at h h2
  have e:a=b:=by
   apply UInt8.toNat_inj.1
   have h3:¬a.toNat<b.toNat:=h.1
   have h4:¬b.toNat<a.toNat:=h2.1
   omega
  subst e
  rw[zE6 x y (h.2 rfl) (h2.2 rfl)]
theorem zKs{a b:ByteArray}(h:a.data.toList=b.data.toList):a=b:=ByteArray.ext (Array.toList_inj.1 h)
theorem zLX(a b:ByteArray):gtB a b=true↔Op.bytesLess b.data.toList a.data.toList=true:=by
 unfold gtB
 rw[ByteArray.toList_eq,ByteArray.toList_eq,Bool.not_eq_true',Bool.or_eq_false_iff]
 constructor
 ·rintro⟨h1,h2⟩
  cases h:Op.bytesLess b.data.toList a.data.toList with
  | true=>rfl
  | false =>
   rw[zE6 _ _ h1 h]at h2
   simp at h2
 ·intro h
  have h1:=zEi _ _ h
  refine⟨h1,?_⟩
  rw[beq_eq_false_iff_ne]
  intro e
  rw[e]at h h1
  rw[h]at h1
  cases h1
theorem zL2{a b:ByteArray}(h:gtB a b=true):gtB b a=false:=by
 rw[Bool.eq_false_iff]
 intro h2
 have h3:=zEi _ _ ((zLX a b).1 h)
 rw[(zLX b a).1 h2]at h3
 cases h3
def zAZ(k:Int)(l:List ByteArray):List ByteArray:=if zC1 k l then [l.getD 1 ByteArray.empty,l.getD 0 ByteArray.empty]else l
theorem zE7(k:Int)(l:List ByteArray):¬zC1 k (zAZ k l):=by
 unfold zAZ
 by_cases h:zC1 k l
 ·rw[if_pos h]
  obtain⟨h1,h2,h3⟩:=h
  rintro⟨_,_,h4⟩
  rw[show([l.getD 1 ByteArray.empty,l.getD 0 ByteArray.empty].getD 0 ByteArray.empty)=l.getD 1 ByteArray.empty from rfl,show([l.getD 1 ByteArray.empty,l.getD 0 ByteArray.empty].getD 1 ByteArray.empty)=l.getD 0 ByteArray.empty from rfl,zL2 h3]at h4
  cases h4
 ·rw[if_neg h];exact h
theorem zDC(k:Int)(l:List ByteArray):(zAZ k l).length=l.length:=by
 unfold zAZ
 split
 ·rename_i h
  rw[h.2.1];rfl
 ·rfl
theorem zDD(k:Int)(l:List ByteArray)(p:ByteArray):p∈zAZ k l↔p∈l:=by
 unfold zAZ
 split
 ·rename_i h
  obtain⟨_,h2,_⟩:=h
  cases l with
  | nil=>simp at h2
  | cons a r =>
   cases r with
   | nil=>simp at h2
   | cons b r =>
    cases r with
    | cons c r=>simp at h2
    | nil=>simp[or_comm]
 ·exact Iff.rfl
theorem zBH{k:Int}(h:k≠6)(l:List ByteArray):zAZ k l=l:=by unfold zAZ;rw[if_neg (by rintro⟨a,_⟩;exact h a)]
theorem zHg(k:Int)(n:Nat)(b:List UInt8)(l:List ByteArray)(h:5<=k):(zAI l).length+3<=(zA5 k n b l).length:=by
 unfold zA5
 rw[if_neg (by omega),if_neg (by omega),if_neg (by omega)]
 simp only[List.length_cons,List.length_append,List.length_nil]
 omega
theorem zFj(l:List ByteArray)(p:ByteArray)(h:p∈l):p.size<=(zAI l).length:=by
 induction l with
 | nil=>cases h
 | cons a r ih =>
  have hsz:∀a:ByteArray,a.data.toList.length=a.size:=fun _=>rfl
  cases r with
  | nil=>rw[List.mem_singleton.1 h,zAI,hsz];exact Nat.le_refl _
  | cons b r =>
   rw[zAI,List.length_append,List.length_cons,hsz]
   rcases List.mem_cons.1 h with h|h
   ·rw[h];omega
   ·have:=ih h;omega
theorem zGL(s:ByteArray)(h:s.size<=65536):isT s.data.toList↔∃nd,zAE s=some nd:=by
 rw[zD0,if_neg (by omega)]
 have hsz:s.data.toList.length=s.size:=rfl
 constructor
 ·intro hT
  obtain⟨nd,hon⟩:=zGJ hT
  have:=hon [] (2*s.size+2) (.inl rfl) (by omega)
  rw[List.append_nil]at this
  rw[this]
  exact⟨nd,rfl⟩
 ·rintro⟨nd,h⟩
  unfold zKm at h
  split at h
  ·rename_i hq
   obtain⟨x,e,hx,_⟩:=zJR hq
   rw[List.append_nil]at e
   rw[e];exact hx
  ·cases h
noncomputable def zAS(k:Int)(n:Nat)(b:List UInt8)(l:List ByteArray):ByteArray :=
 if 1<=k∧k<=11∧(zAK k=true->zAW k n=true)∧zBF k l.length=true∧(∀p∈l,(zAE p).isSome=true)∧(zA5 k n b (zAZ k l)).length<=65536 then zAD (zA5 k n b (zAZ k l))else ByteArray.empty
theorem zDE{s:ByteArray}{nd:Nd}(h:zAE s=some nd):s.size<=65536:=by
 unfold zAE at h
 split at h
 ·cases h
 ·omega
theorem zKt{p:ByteArray}(h:(zAE p).isSome=true):isT p.data.toList:=by
 obtain⟨nd,h⟩:=Option.isSome_iff_exists.1 h
 exact(zGL p (zDE h)).2 ⟨nd,h⟩
theorem zAF(l:List UInt8):(zAD l).size=l.length:=by
 show l.toArray.size=l.length
 simp
theorem zJV{k:Int}(h1:1<=k)(h4:k<=4)(l:List ByteArray):zBF k l.length=true↔l=[]:=by
 rcases(show k=1∨k=2∨k=3∨k=4 by omega)with rfl|rfl|rfl|rfl
 all_goals
  simp only[zBF,zDV,zEt]
  cases l with
  | nil=>simp
  | cons a r=>simp<;>try omega
theorem zEj(k:Int)(n:Nat)(b:List UInt8)(l:List ByteArray)(h1:1<=k)(h11:k<=11)(hn:n<18446744073709551616)(hT:∀p∈l,(zAE p).isSome=true)(h4:k<=4->l=[]) :
  zAE (zAD (zA5 k n b l))=if okV k n l∧(zA5 k n b l).length<=65536 then some (k,(if zAK k=true then n else 0),(if k=4 then b else []),l)else none:=by
 rw[zD0,zAF]
 by_cases hlen:(zA5 k n b l).length<=65536
 ·rw[if_neg (by omega)]
  show zKm (rdL _ none (zA5 k n b l))=_
  by_cases hk:k<=4
  ·have hl:=h4 hk
   subst hl
   rw[zL0 k n b [] _ h1 hk hn (by omega)]
   have hok:okV k n []↔(zAK k=true->zAW k n=true):=by
    unfold okV
    constructor
    ·exact fun h=>h.1
    ·exact fun h=>⟨h,(zJV h1 hk []).2 rfl,by rintro⟨_,h,_⟩;simp at h⟩
   by_cases ha:(zAK k=true->zAW k n=true)
   ·rw[if_pos ha,if_pos (show okV k n []∧(zA5 k n b []).length<=65536 from⟨hok.2 ha,hlen⟩)];rfl
   ·rw[if_neg ha,if_neg (show ¬(okV k n []∧(zA5 k n b []).length<=65536)by rintro⟨h,_⟩;exact ha (hok.1 h))];rfl
  ·rw[zJU k n b l _ (by omega) h11 hn (fun p hp=>zKt (hT p hp)) (Nat.le_refl _)]
   by_cases ha:okV k n l
   ·rw[if_pos ha,if_pos (show okV k n l∧(zA5 k n b l).length<=65536 from⟨ha,hlen⟩),if_neg (show ¬k=4 by omega)];rfl
   ·rw[if_neg ha,if_neg (show ¬(okV k n l∧(zA5 k n b l).length<=65536)by rintro⟨h,_⟩;exact ha h)];rfl
 ·rw[if_pos (by omega),if_neg (by rintro⟨_,h⟩;exact hlen h)]
theorem zC2{k:Int}{n:Nat}{b:List UInt8}{l:List ByteArray}(hn:n<18446744073709551616)(h:zAS k n b l≠ByteArray.empty) :
  zAE (zAS k n b l)=some (k,(if zAK k=true then n else 0),(if k=4 then b else []),zAZ k l):=by
 unfold zAS at h ⊢
 split at h
 ·rename_i hc
  obtain⟨h1,h2,h3,h4,h5,h6⟩:=hc
  rw[if_pos ⟨h1,h2,h3,h4,h5,h6⟩]
  rw[zEj k n b (zAZ k l) h1 h2 hn (fun p hp=>h5 p ((zDD k l p).1 hp)) (fun hk=>by rw[zBH (by omega)];exact(zJV h1 hk l).1 h4)]
  rw[if_pos ⟨⟨h3,by rw[zDC];exact h4,zE7 k l⟩,h6⟩]
 ·exact absurd rfl h
theorem zHh{l:List UInt8}(h:l≠[]):zAD l≠ByteArray.empty:=by
 intro e
 have:=zAF l
 rw[e]at this
 cases l with
 | nil=>exact h rfl
 | cons a r=>simp at this
theorem zLY(k:Int)(n:Nat)(b:List UInt8)(l:List ByteArray):zA5 k n b l≠[]:=by unfold zA5;simp
theorem zCa{s:ByteArray}{k:Int}{n:Nat}{b:List UInt8}{l:List ByteArray}(h:zAE s=some (k,n,b,l)) :
  zAS k n b l=s∧1<=k∧k<=11∧zBF k l.length=true∧n<18446744073709551616∧(zAK k=false->n=0)∧(k≠4->b=[])∧(∀p∈l,(zAE p).isSome=true)∧(∀p∈l,p.size<=s.size)∧¬zC1 k l:=by
 have hs:=zDE h
 rw[zD0,if_neg (by omega)]at h
 have hq:rdL (2*s.size+2) none s.data.toList=some ((k,n,b,l),[]):=by
  unfold zKm at h
  split at h
  ·rename_i hq
   simp only[Option.some.injEq]at h
   rw[hq,h]
  ·cases h
 obtain⟨h1,h2,h3,h4,h5,h6,h7,h8,h9⟩:=zL1 _ _ _ _ _ _ hq
 have hsz:s.data.toList.length=s.size:=rfl
 have hsm:∀p∈l,p.size<=s.size:=by
  intro p hp
  by_cases hk:k<=4
  ·rw[h8 hk]at hp;cases hp
  ·have a:=zFj l p hp
   have b:=zHg k n b l (by omega)
   rw[<-h1]at b
   omega
 have hps:∀p∈l,(zAE p).isSome=true:=by
  intro p hp
  obtain⟨nd,e⟩:=(zGL p (by have:=hsm p hp;omega)).1 (h9 p hp)
  rw[e];rfl
 have hsort:zAZ k l=l:=by unfold zAZ;rw[if_neg h4.2.2]
 refine⟨?_,h2,h3,h4.2.1,h5,h6,h7,hps,hsm,h4.2.2⟩
 unfold zAS
 rw[hsort,if_pos ⟨h2,h3,h4.1,h4.2.1,hps,by rw[<-h1];omega⟩,<-h1]
 exact zBB s
end
section
open Go.Proofs.Tryz
set_option maxHeartbeats 3200000
set_option maxRecDepth 100000
open Go.RowKit Go.Deep

def zEx(s:ByteArray):List UInt8×Bool:=match zAE s with|none=>([],false)|some nd=>if nd.1=4 then (nd.2.2.1,true)else ([],false)
def zDd(r:List UInt8×Bool)(w:World)(e:Ending)(w':World):Prop :=
 ∃v,e=.returned (.tuple #[v,.bool r.2])∧Only [] w w'∧∀N:List Nat,(∀x∈N,x<w.heap.size)->Rd w' N v (zBR .u8 (zBo r.1))
theorem zEk{r:List UInt8×Bool}{l:List UInt8}{b:Bool}{v:Value}{w w':World}(h:r=(l,b))(ho:Only [] w w')(hr:∀N:List Nat,(∀x∈N,x<w.heap.size)->Rd w' N v (zBR .u8 (zBo l))) :
  zDd r w (.returned (.tuple #[v,.bool b])) w':=by subst h;exact⟨_,rfl,ho,hr⟩
def eqB(a b:ByteArray):Bool:=a.toList==b.toList
theorem zFk(a b:ByteArray):eqB a b=true↔a=b:=by
 unfold eqB
 rw[beq_iff_eq,ByteArray.toList_eq,ByteArray.toList_eq]
 exact⟨zKs,fun h=>by rw[h]⟩
def zBD(t key:ByteArray)(n:Nat)(v:ByteArray):ByteArray×Int:=match zAE t with
 | some (k,m,_,l)=>if k≠10 then (ByteArray.empty,3)else if l.getD 0 ByteArray.empty=key∧m=n∧l.getD 2 ByteArray.empty=v then (l.getD 1 ByteArray.empty,0)else (ByteArray.empty,8)
 | none=>(ByteArray.empty,3)
def zCl(r:ByteArray×Int)(w:World)(e:Ending)(w':World):Prop:=e=.returned (.tuple #[.string r.1,.int .i64 r.2])∧Only [] w w'
theorem zDF{r:ByteArray×Int}{a:ByteArray}{b:Int}{w w':World}(h:r=(a,b))(ho:Only [] w w'):zCl r w (.returned (.tuple #[.string a,.int .i64 b])) w':=by subst h;exact⟨rfl,ho⟩
theorem zEl{w:World}{N:List Nat}{A:Option Addr}{n cap:Nat}{l:List ByteArray}(h:Rd w N (.slice A n cap) (zAq l))(h0:0<l.length) :
  ∃g o,A=some ⟨g,o,none⟩∧n=l.length∧∀i,i<l.length->w.cell? ⟨g,o+i,none⟩=some (.string (l.getD i ByteArray.empty)):=by
 obtain⟨h1,_,_,h2⟩:=h.at_
 have key:∀i,i<l.length->(zAq l)[i]?=some (.string (l.getD i ByteArray.empty)):=by
  intro i hi
  simp[zAq,List.getElem?_eq_getElem hi]
 obtain⟨g,o,hA,_,_,_⟩:=h2 0 _ (key 0 h0)
 refine⟨g,o,hA,by rw[h1,zBN],fun i hi=>?_⟩
 obtain⟨g',o',hA',_,_,hc⟩:=h2 i _ (key i hi)
 rw[hA]at hA'
 injection hA' with hA'
 injection hA' with e1 e2
 subst e1 e2
 exact hc

theorem zGM(w:World)(s:ByteArray)(hs:s.size<=maxLen):Calls prog 75 #[.string s] w (zDd (zEx s) w):=by
 have HP:=zAA (zES w s hs)
 cases hp:zAE s with
 | none =>
  rw[hp]at HP
  have HV:=zAA (show zEx s=([],false)by unfold zEx;rw[hp])
  clear hp
  go_enter func75,ntmps75
  go_wp2_with (go_at_call 107;refine HP.out.mono ?_;rintro e w1 ⟨rfl,ho⟩;unfold nd0;have HO:=zAA ho;clear ho)
  go_ret2
  exact zEk HV.out (HO.out.alloc _) (fun N _=>Rd.nil _ N)
 | some nd =>
  obtain⟨k,n,bs,parts⟩:=nd
  rw[hp]at HP
  by_cases hk:k=4
  ·have HV:=zAA (show zEx s=(bs,true)by unfold zEx;rw[hp];simp only;rw[if_pos hk])
   have hkb:(k != 4)=false:=by rw[bne_eq_false_iff_eq];exact hk
   clear hp hk
   go_enter func75,ntmps75
   go_wp2_with (go_at_call 107;refine HP.out.mono ?_;rintro e w1 ⟨bv,pv,rfl,ho,hb,hp⟩;obtain⟨A,cap,rfl,_,_⟩:=(hb [] (by simp)).formb;obtain⟨A2,cap2,rfl,_,_⟩:=(hp [] (by simp)).form;have HO:=zAA ho;have HRB:=zAA hb;clear ho hb hp)
   go_ret2
   exact zEk HV.out (HO.out.alloc _) (fun N hN=>(HRB.out N hN).only ((Only.refl [] _).alloc _) (by simp))
  ·have HV:=zAA (show zEx s=([],false)by unfold zEx;rw[hp];simp only;rw[if_neg hk])
   have hkb:(k != 4)=true:=by rw[bne_iff_ne];exact hk
   clear hp hk
   go_enter func75,ntmps75
   go_wp2_with (go_at_call 107;refine HP.out.mono ?_;rintro e w1 ⟨bv,pv,rfl,ho,hb,hp⟩;obtain⟨A,cap,rfl,_,_⟩:=(hb [] (by simp)).formb;obtain⟨A2,cap2,rfl,_,_⟩:=(hp [] (by simp)).form;have HO:=zAA ho;clear ho hb hp)
   go_ret2
   exact zEk HV.out (HO.out.alloc _) (fun N _=>Rd.nil _ N)
end
section
open Go.Proofs.Tryz
set_option maxHeartbeats 6400000
set_option maxRecDepth 100000
open Go.RowKit Go.Deep

theorem zHi{k:Int}{parts:List ByteArray}(hk:k=10)(hm:zBF k parts.length=true):∃a b c,parts=[a,b,c]:=by
 subst hk
 have hl:parts.length=3:=by
  simp only[zBF,zDV,zEt]at hm
  simp at hm
  omega
 match parts,hl with
 | [a,b,c],_=>exact⟨a,b,c,rfl⟩
theorem zJW{t key v:ByteArray}{n m:Nat}{bs:List UInt8}{p0 p1 p2:ByteArray}(hp:zAE t=some (10,m,bs,[p0,p1,p2])) :
  zBD t key n v=if (eqB p0 key&&decide (m=n)&&eqB p2 v)=true then (p1,0)else (ByteArray.empty,8):=by
 unfold zBD
 rw[hp]
 simp only
 rw[if_neg (by decide)]
 by_cases h:p0=key∧m=n∧p2=v
 ·obtain⟨rfl,rfl,rfl⟩:=h
  rw[if_pos ⟨rfl,rfl,rfl⟩,(zFk p0 p0).2 rfl,(zFk p2 p2).2 rfl,decide_eq_true rfl]
  rfl
 ·rw[if_neg (show ¬([p0,p1,p2].getD 0 ByteArray.empty=key∧m=n∧[p0,p1,p2].getD 2 ByteArray.empty=v)from h),if_neg]
  intro h2
  simp only[Bool.and_eq_true,decide_eq_true_eq]at h2
  exact h ⟨(zFk _ _).1 h2.1.1,h2.1.2,(zFk _ _).1 h2.2⟩

theorem zFl(w:World)(t key v:ByteArray)(n:Nat)(hs:t.size<=maxLen):Calls prog 63 #[.string t,.string key,.int .u64 n,.string v] w (zCl (zBD t key n v) w):=by
 have HP:=zAA (zES w t hs)
 cases hp:zAE t with
 | none =>
  rw[hp]at HP
  have HV:=zAA (show zBD t key n v=(ByteArray.empty,3)by unfold zBD;rw[hp])
  clear hp
  go_enter func63,ntmps63
  go_wp2_with (go_at_call 107;refine HP.out.mono ?_;rintro e w1 ⟨rfl,ho⟩;unfold nd0;have HO:=zAA ho;clear ho)
  go_ret2
  exact zDF HV.out (HO.out.alloc _)
 | some nd =>
  obtain⟨k,m,bs,parts⟩:=nd
  have hm:=(zCa hp).2.2.2.1
  by_cases hk:k=10
  ·obtain⟨p0,p1,p2,rfl⟩:=zHi hk hm
   subst hk
   have HV:=zAA (zJW (key:=key) (n:=n) (v:=v) hp)
   rw[hp]at HP
   clear hp hm
   unfold eqB at HV
   rcases Bool.eq_false_or_eq_true (p0.toList==key.toList)with e0|e0
   all_goals
    rcases Bool.eq_false_or_eq_true (p2.toList==v.toList)with e2|e2
    all_goals
     rcases Bool.eq_false_or_eq_true (decide (m=n))with em|em
     all_goals
      rw[e0,e2,em]at HV
      simp only[Bool.and_true,Bool.and_false,if_true,if_false,Bool.false_eq_true]at HV
      have em2:((m:Int) != (n:Int))=!decide (m=n):=by
       by_cases h:m=n
       ·subst h;simp
       ·rw[decide_eq_false h];simp;omega
      rw[em]at em2
      simp only[Bool.not_true,Bool.not_false]at em2
      clear em
      go_enter func63,ntmps63
      go_wp2_with (go_at_call 107;refine HP.out.mono ?_;rintro e w1 ⟨bv,pv,rfl,ho,hb,hp⟩;obtain⟨A,cap,rfl,_,_⟩:=(hb [] (by simp)).formb;obtain⟨A2,cap2,rfl,_,_⟩:=(hp [] (by simp)).form;obtain⟨g,o,rfl,_,hc⟩:=zEl ((hp [] (by simp)).only ((Only.refl [] _).alloc (.cells #[.int .i64 10,.int .u64 (m:Nat),.slice A bs.length cap,.slice A2 3 cap2] 145)) (by simp)) (by simp);have s0:=hc 0 (by simp);have s1:=hc 1 (by simp);have s2:=hc 2 (by simp);simp at s0 s1 s2;have HO:=zAA ho;clear ho hb hp hc;simp only[zAq,List.map_cons,List.map_nil,List.length_cons,List.length_nil])
      go_ret2
      exact zDF HV.out (HO.out.alloc _)
  ·have HV:=zAA (show zBD t key n v=(ByteArray.empty,3)by unfold zBD;rw[hp];simp only;rw[if_pos hk])
   rw[hp]at HP
   have hkb:(k != 10)=true:=by rw[bne_iff_ne];exact hk
   clear hp hk hm
   go_enter func63,ntmps63
   go_wp2_with (go_at_call 107;refine HP.out.mono ?_;rintro e w1 ⟨bv,pv,rfl,ho,hb,hp⟩;obtain⟨A,cap,rfl,_,_⟩:=(hb [] (by simp)).formb;obtain⟨A2,cap2,rfl,_,_⟩:=(hp [] (by simp)).form;have HO:=zAA ho;clear ho hb hp)
   go_ret2
   exact zDF HV.out (HO.out.alloc _)

theorem zJX(w:World)(t key v:ByteArray)(n:Nat)(hs:t.size<=1000000):Calls prog 65 #[.string t,.string key,.int .u64 n,.string v] w (zCl (zBD t key n v) w):=by
 have HP:=zAA (zGE w t hs)
 cases hp:zAE t with
 | none =>
  rw[hp]at HP
  unfold zBW nd0 at HP
  simp only at HP
  have HV:=zAA (show zBD t key n v=(ByteArray.empty,3)by unfold zBD;rw[hp])
  clear hp
  go_enter func65,ntmps65
  go_wp2_with (go_at_call 39;refine HP.out.mono ?_;rintro e w1 ⟨rfl,ho⟩;have HO:=zAA ho;clear ho)
  go_ret2
  exact zDF HV.out (HO.out.alloc _)
 | some nd =>
  obtain⟨k,m,bs,parts⟩:=nd
  have hm:=(zCa hp).2.2.2.1
  by_cases hk:k=10
  ·obtain⟨p0,p1,p2,rfl⟩:=zHi hk hm
   subst hk
   have HV:=zAA (zJW (key:=key) (n:=n) (v:=v) hp)
   rw[hp]at HP
   unfold zBW at HP
   simp only at HP
   clear hp hm
   unfold eqB at HV
   rcases Bool.eq_false_or_eq_true (p0.toList==key.toList)with e0|e0
   all_goals
    rcases Bool.eq_false_or_eq_true (p2.toList==v.toList)with e2|e2
    all_goals
     rcases Bool.eq_false_or_eq_true (decide (m=n))with em|em
     all_goals
      rw[e0,e2,em]at HV
      simp only[Bool.and_true,Bool.and_false,if_true,if_false,Bool.false_eq_true]at HV
      have em2:((m:Int) != (n:Int))=!decide (m=n):=by
       by_cases h:m=n
       ·subst h;simp
       ·rw[decide_eq_false h];simp;omega
      rw[em]at em2
      simp only[Bool.not_true,Bool.not_false]at em2
      clear em
      go_enter func65,ntmps65
      go_wp2_with (go_at_call 39;refine HP.out.mono ?_;rintro e w1 ⟨bv,pv,rfl,ho,hb,hp⟩;obtain⟨A,cap,rfl,_,_⟩:=(hb [] (by simp)).formb;obtain⟨A2,cap2,rfl,_,_⟩:=(hp [] (by simp)).form;obtain⟨g,o,rfl,_,hc⟩:=zEl ((hp [] (by simp)).only ((Only.refl [] _).alloc (.cells #[.int .i64 10,.int .u64 (m:Nat),.slice A bs.length cap,.slice A2 3 cap2] 77)) (by simp)) (by simp);have s0:=hc 0 (by simp);have s1:=hc 1 (by simp);have s2:=hc 2 (by simp);simp at s0 s1 s2;have HO:=zAA ho;clear ho hb hp hc;simp only[zAq,List.map_cons,List.map_nil,List.length_cons,List.length_nil])
      go_ret2
      exact zDF HV.out (HO.out.alloc _)
  ·have HV:=zAA (show zBD t key n v=(ByteArray.empty,3)by unfold zBD;rw[hp];simp only;rw[if_pos hk])
   rw[hp]at HP
   unfold zBW at HP
   simp only at HP
   have hkb:(k != 10)=true:=by rw[bne_iff_ne];exact hk
   clear hp hk hm
   go_enter func65,ntmps65
   go_wp2_with (go_at_call 39;refine HP.out.mono ?_;rintro e w1 ⟨bv,pv,rfl,ho,hb,hp⟩;obtain⟨A,cap,rfl,_,_⟩:=(hb [] (by simp)).formb;obtain⟨A2,cap2,rfl,_,_⟩:=(hp [] (by simp)).form;have HO:=zAA ho;clear ho hb hp)
   go_ret2
   exact zDF HV.out (HO.out.alloc _)
end
section
open Go.Proofs.Tryz
set_option maxHeartbeats 1600000
set_option maxRecDepth 100000
open Go.RowKit Go.Deep

abbrev fnV(f:FuncId):Value:=.func (.func f) #[] #[]
abbrev zMz(b:Nat):Value:=.agg #[.int .i64 4,.func (.func 169) #[] #[.pointer (some ⟨b,0,none⟩)],.func (.func 170) #[] #[.pointer (some ⟨b,0,none⟩)],.nilFunc]
def zBd(b:Nat):List Value:=[.int .i64 4,.func (.func 169) #[] #[.pointer (some ⟨b,0,none⟩)],.func (.func 170) #[] #[.pointer (some ⟨b,0,none⟩)],.nilFunc]

theorem zCE(f:FuncId)(w:World):Calls prog 149 #[fnV f] w fun e w'=>e=.returned (zMz w.heap.size)∧Blk w' w.heap.size 205 #[fnV f]∧w.heap.size<w'.heap.size∧Only [] w w':=by
 have hst:=fun(W:World) (a:Addr) (fn:Fn) (c:Array Value)=>(run_store prog W a (.func fn #[] c) .plain rfl:(store a (.func fn #[] c)).run prog W=stored prog W a (.func fn #[] c) .plain)
 have hsn:=fun(W:World) (a:Addr)=>(run_store prog W a .nilFunc .plain rfl:(store a .nilFunc).run prog W=stored prog W a .nilFunc .plain)
 have HB:=zAA ((Blk.new w 205 #[fnV f]).alloc (.cells (zBd w.heap.size).toArray 155))
 have HF:=zAA (Blk.new (w.alloc (.cells #[fnV f] 205)) 155 (zBd w.heap.size).toArray)
 rw[World.size_alloc]at HF
 have HO:=zAA (((Only.refl [] w).alloc (.cells #[fnV f] 205)).alloc (.cells (zBd w.heap.size).toArray 155))
 go_enter func149,ntmps149
 go_wp2
 refine bodyPost_ret (results_cell_row rfl _ _ (w.heap.size+1) 155 _ (0,0) _ rfl HF.out underlying155 rfl (by kernel_rfl)) rfl ?_
 exact⟨rfl,HB.out,(by simp;omega),HO.out⟩
theorem zJY(M b:Nat)(x:Nat)(w:World)(h:w.cell? ⟨b,0,none⟩=some (fnV 150))(h2:w.cell? ⟨M,1,none⟩=some (.int .u32 x))(hx:x<4294967296) :
  Calls prog 169 #[.pointer (some ⟨M,0,none⟩),.pointer (some ⟨b,0,none⟩)] w fun e w'=>e=.returned (.int .u64 x)∧w=w':=by
 have hw:IntKind.u64.wrap (x:Int)=x:=by rw[IntKind.wrap_u64];omega
 clear hx
 go_enter func169,ntmps169
 go_wp2
 go_ret
 exact⟨rfl,rfl⟩
theorem zJZ(M b:Nat)(x:Nat)(w:World)(h:w.cell? ⟨b,0,none⟩=some (fnV 150)){y:Nat}(h2:w.cell? ⟨M,1,none⟩=some (.int .u32 y))(hf:w.frozen? ⟨M,1,none⟩=false)(hx:x<4294967296) :
  Calls prog 170 #[.pointer (some ⟨M,0,none⟩),.int .u64 x,.pointer (some ⟨b,0,none⟩)] w fun e w'=>e=.returned (.tuple #[])∧w'=w.setCell ⟨M,1,none⟩ (.int .u32 x):=by
 have hw:IntKind.u32.wrap (x:Int)=x:=by rw[IntKind.wrap_u32];omega
 clear hx
 go_enter func170,ntmps170
 go_wp2
 go_end0
 exact⟨rfl,rfl⟩
theorem zGu(M b:Nat)(x:Nat)(w:World)(h:w.cell? ⟨b,0,none⟩=some (fnV 151))(h2:w.cell? ⟨M,2,none⟩=some (.int .u32 x))(hx:x<4294967296) :
  Calls prog 169 #[.pointer (some ⟨M,0,none⟩),.pointer (some ⟨b,0,none⟩)] w fun e w'=>e=.returned (.int .u64 x)∧w=w':=by
 have hw:IntKind.u64.wrap (x:Int)=x:=by rw[IntKind.wrap_u64];omega
 clear hx
 go_enter func169,ntmps169
 go_wp2
 go_ret
 exact⟨rfl,rfl⟩
theorem zGv(M b:Nat)(x:Nat)(w:World)(h:w.cell? ⟨b,0,none⟩=some (fnV 151)){y:Nat}(h2:w.cell? ⟨M,2,none⟩=some (.int .u32 y))(hf:w.frozen? ⟨M,2,none⟩=false)(hx:x<4294967296) :
  Calls prog 170 #[.pointer (some ⟨M,0,none⟩),.int .u64 x,.pointer (some ⟨b,0,none⟩)] w fun e w'=>e=.returned (.tuple #[])∧w'=w.setCell ⟨M,2,none⟩ (.int .u32 x):=by
 have hw:IntKind.u32.wrap (x:Int)=x:=by rw[IntKind.wrap_u32];omega
 clear hx
 go_enter func170,ntmps170
 go_wp2
 go_end0
 exact⟨rfl,rfl⟩
theorem zE8(M:Nat)(w:World):Calls prog 152 #[.pointer (some ⟨M,0,none⟩)] w fun e w'=>e=.returned (.pointer (some ⟨M,4,none⟩))∧w=w':=by
 go_enter func152,ntmps152
 go_wp2
 go_ret
 exact⟨rfl,rfl⟩
theorem zD1(M:Nat)(w:World):Calls prog 153 #[.pointer (some ⟨M,0,none⟩)] w fun e w'=>e=.returned (.pointer (some ⟨M,11,none⟩))∧w=w':=by
 go_enter func153,ntmps153
 go_wp2
 go_ret
 exact⟨rfl,rfl⟩
theorem zD2(M:Nat)(w:World):Calls prog 154 #[.pointer (some ⟨M,0,none⟩)] w fun e w'=>e=.returned (.pointer (some ⟨M,12,none⟩))∧w=w':=by
 go_enter func154,ntmps154
 go_wp2
 go_ret
 exact⟨rfl,rfl⟩
theorem zJa(M:Nat)(w:World):Calls prog 155 #[.pointer (some ⟨M,0,none⟩)] w fun e w'=>e=.returned (.pointer (some ⟨M,5,none⟩))∧w=w':=by
 go_enter func155,ntmps155
 go_wp2
 go_ret
 exact⟨rfl,rfl⟩
theorem zJb(M:Nat)(w:World):Calls prog 156 #[.pointer (some ⟨M,0,none⟩)] w fun e w'=>e=.returned (.pointer (some ⟨M,6,none⟩))∧w=w':=by
 go_enter func156,ntmps156
 go_wp2
 go_ret
 exact⟨rfl,rfl⟩
theorem zJc(M:Nat)(w:World):Calls prog 157 #[.pointer (some ⟨M,0,none⟩)] w fun e w'=>e=.returned (.pointer (some ⟨M,7,none⟩))∧w=w':=by
 go_enter func157,ntmps157
 go_wp2
 go_ret
 exact⟨rfl,rfl⟩
theorem zJd(M:Nat)(w:World):Calls prog 158 #[.pointer (some ⟨M,0,none⟩)] w fun e w'=>e=.returned (.pointer (some ⟨M,8,none⟩))∧w=w':=by
 go_enter func158,ntmps158
 go_wp2
 go_ret
 exact⟨rfl,rfl⟩
theorem zJe(M:Nat)(w:World):Calls prog 159 #[.pointer (some ⟨M,0,none⟩)] w fun e w'=>e=.returned (.pointer (some ⟨M,9,none⟩))∧w=w':=by
 go_enter func159,ntmps159
 go_wp2
 go_ret
 exact⟨rfl,rfl⟩
theorem zGw(M:Nat)(w:World):Calls prog 162 #[.pointer (some ⟨M,0,none⟩)] w fun e w'=>e=.returned (.pointer (some ⟨M,10,none⟩))∧w=w':=by
 go_enter func162,ntmps162
 go_wp2
 go_ret
 exact⟨rfl,rfl⟩
theorem zMh(M:Nat)(x:Nat)(w:World)(h2:w.cell? ⟨M,3,none⟩=some (.int .u64 x)) :
  Calls prog 160 #[.pointer (some ⟨M,0,none⟩)] w fun e w'=>e=.returned (.int .u64 x)∧w=w':=by
 go_enter func160,ntmps160
 go_wp2
 go_ret
 exact⟨rfl,rfl⟩
theorem zMi(M:Nat)(x:Nat)(w:World){y:Nat}(h2:w.cell? ⟨M,3,none⟩=some (.int .u64 y))(hf:w.frozen? ⟨M,3,none⟩=false) :
  Calls prog 161 #[.pointer (some ⟨M,0,none⟩),.int .u64 x] w fun e w'=>e=.returned (.tuple #[])∧w'=w.setCell ⟨M,3,none⟩ (.int .u64 x):=by
 go_enter func161,ntmps161
 go_wp2
 go_end0
 exact⟨rfl,rfl⟩
end
end Go.Proofs.YtfipdjlalfpbnaaGreatDoor
