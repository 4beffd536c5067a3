/-
  Walks and plain words (texts Sls, Tm1, Tm2, Tm3, Num1, Num2). No condition beyond those that each theorem states.
-/
import Derived.Test.YtfipdjlalfpbnaaGreatDoorChecked
import Derived.Deep.LoopGhost
import Derived.Laws.RangeAny
import Derived.Test.YtfipdjlalfpbnaaGreatDoorA01
namespace Go.Proofs.YtfipdjlalfpbnaaGreatDoor
section
open Go.RowKit Go.Deep

def RdS{α:Type}(k:Nat)(F:α->List Value)(w:World)(N:List Nat)(v:Value)(l:List α):Prop :=
 ∃(A:Option Addr) (cap:Nat),v=.slice A l.length cap∧l.length<=cap∧cap<=maxLen ∧
  (l=[]∨∃g o,A=some ⟨g,o,none⟩∧g∉N∧g<w.heap.size∧∀i p,l[i]?=some p->∀j u,(F p)[j]?=some u->w.cell? ⟨g,o+(i*k+j),none⟩=some u)

section
variable {α:Type} {k:Nat} {F:α->List Value} {w w':World} {N S:List Nat} {v:Value} {l:List α}
theorem RdS.nil(w:World)(N:List Nat):RdS k F w N (.slice none 0 0) []:=⟨none,0,rfl,Nat.le_refl _,Nat.zero_le _,.inl rfl⟩
theorem RdS.form(h:RdS k F w N v l):∃A cap,v=.slice A l.length cap∧l.length<=cap∧cap<=maxLen:=by
 obtain⟨A,cap,hv,hc,hm,_⟩:=h
 exact⟨A,cap,hv,hc,hm⟩
theorem RdS.only(h:RdS k F w N v l)(ho:Only S w w')(hs:∀x∈S,x∈N):RdS k F w' N v l:=by
 obtain⟨A,cap,hv,hc,hm,h⟩:=h
 refine⟨A,cap,hv,hc,hm,?_⟩
 rcases h with h|⟨g,o,hA,hg,hl,hcell⟩
 ·exact .inl h
 ·exact .inr ⟨g,o,hA,hg,Nat.lt_of_lt_of_le hl ho.size,fun i p hp j u hu=>(zAX ho hl (fun hh=>hg (hs _ hh))).trans (hcell i p hp j u hu)⟩
theorem RdS.addr{A:Option Addr}{n cap:Nat}(h:RdS k F w N (.slice A n cap) l)(h0:0<l.length):∃g o,A=some ⟨g,o,none⟩∧g∉N∧g<w.heap.size:=by
 obtain⟨A',cap',hv,_,_,h⟩:=h
 injection hv with h1 h2 h3
 subst h1 h2 h3
 rcases h with h|⟨g,o,hA,hg,hl,_⟩
 ·subst h;simp at h0
 ·exact⟨g,o,hA,hg,hl⟩
theorem RdS.cell{g o n cap:Nat}(h:RdS k F w N (.slice (some ⟨g,o,none⟩) n cap) l){i:Nat}{p:α}(hp:l[i]?=some p){j:Nat}{u:Value}(hu:(F p)[j]?=some u):w.cell? ⟨g,o+(i*k+j),none⟩=some u:=by
 obtain⟨A',cap',hv,_,_,h⟩:=h
 injection hv with h1 h2 h3
 rcases h with h|⟨g',o',hA,_,_,hc⟩
 ·subst h;simp at hp
 ·rw[<-h1]at hA
  injection hA with hA
  injection hA with e1 e2
  subst e1 e2
  exact hc i p hp j u hu
end

theorem zHD{α β:Type}(F:α->List β)(k:Nat)(hk:∀p,(F p).length=k):∀(l:List α) (i:Nat) (p:α),l[i]?=some p->∀j,j<k->(l.flatMap F)[i*k+j]?=(F p)[j]?
 | [],i,p,h,_,_=>by simp at h
 | x::r,0,p,h,j,hj=>by
  simp at h
  subst h
  rw[List.flatMap_cons,Nat.zero_mul,Nat.zero_add,List.getElem?_append_left (by rw[hk];exact hj)]
 | x::r,i+1,p,h,j,hj=>by
  rw[List.getElem?_cons_succ]at h
  rw[List.flatMap_cons,List.getElem?_append_right (by rw[hk,Nat.succ_mul];omega),hk,show(i+1)*k+j-k=i*k+j by rw[Nat.succ_mul];omega]
  exact zHD F k hk r i p h j hj
theorem zKK{α β:Type}(F:α->List β)(k:Nat)(hk:∀p,(F p).length=k)(l:List α):(l.flatMap F).length=l.length*k:=by
 induction l with
 | nil=>simp
 | cons x r ih=>rw[List.flatMap_cons,List.length_append,ih,hk,List.length_cons,Nat.succ_mul,Nat.add_comm]

theorem RdS.of_own{α:Type}{k:Nat}{F:α->List Value}{w:World}{N:List Nat}{v:Value}{l:List α}{base e n:Nat}(hk:∀p,(F p).length=k)(hk0:0<k)(h:w.ownsRow base e k v n (l.flatMap F))(hN:∀x∈N,x<base):RdS k F w N v l∧l.length=n:=by
 obtain⟨h1,h2⟩:=h
 rw[zKK F k hk]at h1
 have hn:l.length=n:=Nat.eq_of_mul_eq_mul_right hk0 h1
 refine⟨?_,hn⟩
 rcases h2 with ⟨rfl,rfl⟩|⟨g,cap,cur,rfl,hg,hh,hnc,hm,hs,hx⟩
 ·rw[List.length_eq_zero_iff]at hn
  subst hn
  exact RdS.nil w N
 ·refine⟨_,cap,by rw[hn],by omega,hm,.inr ⟨g,0,rfl,fun hh=>by have:=hN g hh;omega,Blk.lt (t:=e) (cs:=cur) hh,fun i p hp j u hu=>?_⟩⟩
  have hj:j<k:=by
   have:=(List.getElem?_eq_some_iff.1 hu).1
   rwa [hk]at this
  have hget:=zHD F k hk l i p hp j hj
  rw[hu,<-hx,List.getElem?_take]at hget
  rw[Nat.zero_add,Blk.cell (t:=e) (cs:=cur) hh]
  split at hget
  ·simpa using hget
  ·cases hget

theorem zKL{α:Type}{F:α->List Value}{w:World}{base e k n:Nat}{v:Value}{l:List α}{x:α}{m:Nat}(h:w.ownsRow base e k v (n+m) (l.flatMap F++F x)):w.ownsRow base e k v (n+m) ((l++[x]).flatMap F):=by
 rw[List.flatMap_append]
 simpa using h

theorem zGf{H:Type}{enc:TypeId×Value->H}{P:Program}{w:World}{base:Nat}{spare:Nat->Bool}{held:Bool}{α:Type}{F:α->List Value}{Q:α->Prop}{t e:TypeId}{k:Nat}{A:Option Addr}{len cap:Nat}{d:DataW H}{p:List MemPlace}
  (ht:P.underlying t=some (.slice e)) (hC:P.cellsOf e=k) (hk0:0<k) (h:DataW.Trod enc P w base spare held t (.slice A len cap) d p)
  (hdec:∀(n:Nat) (cs:List Value) (y:DataW H×List MemPlace),DataW.trod enc P w base spare held n e cs=some y->∃x,F x=cs∧Q x) :
  ∃l:List α,RdS k F w [] (.slice A len cap) l∧∀x∈l,Q x:=by
 obtain⟨fuel,hf⟩:=h
 rcases open_slice ht hf with ⟨hcs,_⟩|⟨a,l,c,m,n,D,Pl,hcs,_,hl,hm,hmm,_,hi⟩
 ·simp[Value.cells]at hcs
  obtain⟨rfl,rfl,rfl⟩:=hcs
  exact⟨[],RdS.nil w [],by simp⟩
 ·simp[Value.cells]at hcs
  obtain⟨rfl,rfl,rfl⟩:=hcs
  have hlm:len<=m:=by rw[hmm];split<;>omega
  rw[hC]at hi
  rcases Nat.eq_zero_or_pos len with h0|h0
  ·subst h0
   exact⟨[],⟨some a,cap,rfl,Nat.zero_le _,hm,.inl rfl⟩,by simp⟩
  have hgood:∀i,i<len->∃x,(∀j u,(F x)[j]?=some u->w.cell? (a.add (i*k+j))=some u)∧(F x).length=k∧Q x:=by
   intro i hlt
   obtain⟨cs',hc,ht'⟩:=hi i (by omega)
   obtain⟨x,hx,hq⟩:=hdec _ _ _ ht'
   obtain⟨_,hcl,hat⟩:=World.cells?_some hc
   refine⟨x,fun j u hu=>?_,by rw[hx];exact hcl,hq⟩
   rw[hx]at hu
   have hj:j<k:=by rw[<-hcl];exact(List.getElem?_eq_some_iff.1 hu).1
   rw[<-Go.Deep.add_add,hat j hj,hu]
  have hel:∀i,∃x,i<len->(∀j u,(F x)[j]?=some u->w.cell? (a.add (i*k+j))=some u)∧(F x).length=k∧Q x:=by
   intro i
   rcases Nat.lt_or_ge i len with hlt|hge
   ·obtain⟨x,hx⟩:=hgood i hlt
    exact⟨x,fun _=>hx⟩
   ·obtain⟨x,_⟩:=hgood 0 h0
    exact⟨x,fun hlt=>by omega⟩
  obtain⟨X,hX⟩:=Classical.axiomOfChoice hel
  refine⟨(List.range len).map X,⟨some a,cap,by simp,by simpa using hl,hm,?_⟩,fun x hx=>?_⟩
  ·obtain⟨c1,c2,_⟩:=hX 0 h0
   have hc0:=c1 0 (F (X 0))[0] (List.getElem?_eq_getElem (by omega))
   have hsp:a.spot=none:=by
    have:=World.cell?_spot hc0
    simpa [Addr.add] using this
   obtain⟨g,o,sp⟩:=a
   simp only at hsp
   subst hsp
   refine .inr ⟨g,o,rfl,by simp,by have:=World.block_lt_of_cell? w _ hc0;rwa [zD6]at this,fun i p hp j u hu=>?_⟩
   rw[List.getElem?_map]at hp
   rcases Nat.lt_or_ge i len with hlt|hge
   ·rw[List.getElem?_range hlt]at hp
    simp only[Option.map_some,Option.some.injEq]at hp
    subst hp
    have:=(hX i hlt).1 j u hu
    rwa [zD6]at this
   ·rw[List.getElem?_eq_none (by simpa using hge)]at hp
    simp at hp
  ·obtain⟨i,hi',rfl⟩:=List.mem_map.1 hx
   exact(hX i (List.mem_range.1 hi')).2.2
end
section
open Go.Proofs.Tryz
set_option maxHeartbeats 1600000
open Go.RowKit

def zAQ(c:Int):Int :=
  if c=48 then 1 else if c=97 then 2 else if c=110 then 3 else if c=120 then 4 else if c=112 then 5 else if c=100 then 6
  else if c=104 then 7 else if c=107 then 8 else if c=109 then 9 else if c=115 then 10 else if c=108 then 11 else 0
theorem zHt(c:Int)(w:World):Calls prog 143 #[.int .u8 c] w fun e w'=>e=.returned (.int .i64 (zAQ c))∧w=w':=by
  go_enter func143,ntmps143
  go_wp2
  all_goals
    go_ret
    exact⟨by simp_all[zAQ],rfl⟩

def zAK(k:Int):Bool:=(k==2) || (k==3) || (k==8) || (k==10)
theorem zAf(k:Int)(w:World):Calls prog 110 #[.int .i64 k] w fun e w'=>e=.returned (.bool (zAK k))∧w=w':=by
  go_enter func110,ntmps110
  go_wp2
  all_goals
    go_ret
    exact⟨by simp_all[zAK],rfl⟩

def zAW(k n:Int):Bool:=if k=2 then decide (n<=4294967295)else if k=8 then decide (1<=n∧n<=3)else true
theorem zB9(k n:Int)(w:World):Calls prog 112 #[.int .i64 k,.int .u64 n] w fun e w'=>e=.returned (.bool (zAW k n))∧w=w':=by
  go_enter func112,ntmps112
  go_wp2
  all_goals
    go_ret
    exact⟨by first|(simp_all[zAW];done)|(simp_all[zAW];omega),rfl⟩

def zDV(k:Int):Int:=if k=5 then 1 else if k=6∨k=8∨k=9 then 2 else if k=10 then 3 else if k=7 then 1 else 0
def zEt(k:Int):Int:=if k=5 then 1 else if k=6∨k=8∨k=9 then 2 else if k=10 then 3 else if k=7 then -1 else if k=11 then -1 else 0
theorem zIj(k:Int)(w:World):Calls prog 134 #[.int .i64 k] w fun e w'=>e=.returned (.tuple #[.int .i64 (zDV k),.int .i64 (zEt k)])∧w=w':=by
  go_enter func134,ntmps134
  go_wp2
  all_goals
    go_ret2
    exact⟨by simp_all[zDV,zEt],rfl⟩

def zBF(k c:Int):Bool:=decide (zDV k<=c)&&(decide (zEt k<0) || decide (c<=zEt k))
theorem zDA(k c:Int)(w:World):Calls prog 113 #[.int .i64 k,.int .i64 c] w fun e w'=>e=.returned (.bool (zBF k c))∧w=w':=by
  go_enter func113,ntmps113
  go_wp2_with (go_at_call 134;refine(zIj _ _).mono ?_;rintro e w' ⟨rfl,rfl⟩)
  all_goals
    go_ret
    exact⟨by first|(simp_all[zBF];done)|(simp_all[zBF];omega),rfl⟩

def zCt(r:Int):Int:=if 48<=r∧r<=57 then r-48 else if 97<=r∧r<=102 then r-87 else -1
theorem zFK(r:Int)(w:World):Calls prog 167 #[.int .i32 r] w fun e w'=>e=.returned (.int .i64 (zCt r))∧w=w':=by
  by_cases h1:48<=r∧r<=57
  · obtain⟨h1,h2⟩:=h1
    have hv:zCt r=r-48:=by unfold zCt;rw[if_pos ⟨h1,h2⟩]
    have HV:=zAA hv
    clear hv
    go_enter func167,ntmps167
    go_wp2
    all_goals
      go_ret
      exact⟨(by rw[HV.out];rfl),rfl⟩
  · by_cases h2:97<=r∧r<=102
    · obtain⟨h2,h3⟩:=h2
      have hv:zCt r=r-97+10:=by unfold zCt;rw[if_neg h1,if_pos ⟨h2,h3⟩];omega
      have h4:¬r<=57:=by omega
      have h5:48<=r:=by omega
      have HV:=zAA hv
      clear hv h1
      go_enter func167,ntmps167
      go_wp2
      all_goals
        go_ret
        exact⟨(by rw[HV.out];rfl),rfl⟩
    · have hv:zCt r=-1:=by unfold zCt;rw[if_neg h1,if_neg h2]
      have HV:=zAA hv
      clear hv
      by_cases a:48<=r<;>by_cases b:r<=57<;>by_cases c:97<=r<;>by_cases d:r<=102
      all_goals first
        | (exfalso;omega)
        | (clear h1 h2
           go_enter func167,ntmps167
           go_wp2
           all_goals
             go_ret
             exact⟨(by rw[HV.out];rfl),rfl⟩)
end
section
open Go.Proofs.Tryz
set_option maxHeartbeats 1600000
set_option maxRecDepth 100000
open Go.RowKit Go.Deep

def del(c:UInt8):Bool:=c==44 || c==41 || c==40
def zBV(s:ByteArray)(p:Nat):Nat:=p+((s.data.toList.drop p).takeWhile fun c=>!del c).length
theorem zBp(s:ByteArray)(p:Nat)(h:p<s.size):s.data.toList.drop p=s[p]::s.data.toList.drop (p+1):=by
 rw[List.drop_eq_getElem_cons (by simpa using h)];rfl
theorem zKM(s:ByteArray)(p:Nat)(h:s.size<=p):zBV s p=p:=by
 unfold zBV;rw[List.drop_of_length_le (by simpa using h)];simp
theorem zIk(s:ByteArray)(p:Nat)(h:p<s.size)(hd:del s[p]=true):zBV s p=p:=by
 unfold zBV;rw[zBp s p h];simp[hd]
theorem zIl(s:ByteArray)(p:Nat)(h:p<s.size)(hd:del s[p]=false):zBV s (p+1)=zBV s p:=by
 unfold zBV;rw[zBp s p h];simp[hd];omega
theorem zFL(s:ByteArray)(p:Nat):p<=zBV s p:=Nat.le_add_right _ _
theorem zIm(s:ByteArray)(p:Nat)(h:p<=s.size):zBV s p<=s.size:=by
 unfold zBV
 have h1:((s.data.toList.drop p).takeWhile fun c=>!del c).length<=(s.data.toList.drop p).length:=(List.takeWhile_sublist _).length_le
 have h2:(s.data.toList.drop p).length=s.size-p:=by rw[List.length_drop];rfl
 omega

def zAw(s:ByteArray)(p:Nat)(c:Int):Bool:=if h:p<s.size then ((s[p].toNat:Int)==c)else false

theorem zDW(w:World)(g:Nat)(s:ByteArray)(p:Nat)(c:Int)(hb:Blk w g 180 #[.string s,.int .i64 p])(_hs:s.size<=maxLen) :
  Calls prog 168 #[.pointer (some ⟨g,0,none⟩),.int .u8 c] w fun e w'=>e=.returned (.bool (zAw s p c))∧∃n,w'=w.drewN n:=by
 unfold maxLen at _hs
 have k0:=hb.cell 0
 have k1:=hb.cell 1
 simp at k0 k1
 clear hb
 by_cases hlt:p<s.size
 ·have hlt':(p:Int)<s.size:=by omega
  have HV:=zAA (show zAw s p c=((s[p].toNat:Int)==c)by unfold zAw;rw[dif_pos hlt])
  have hd:decide (p<s.size)=true:=decide_eq_true hlt
  go_enter func168,ntmps168
  go_wp2_with fail
  go_quiet (fail)
  go_wp2_with fail
  go_ret
  exact⟨(by rw[HV.out];rfl),_,rfl⟩
 ·have hlt':¬(p:Int)<s.size:=by omega
  have HV:=zAA (show zAw s p c=false by unfold zAw;rw[dif_neg hlt])
  have hd:decide (p<s.size)=false:=decide_eq_false hlt
  go_enter func168,ntmps168
  go_wp2_with fail
  go_quiet (fail)
  go_wp2_with fail
  go_ret
  exact⟨(by rw[HV.out];rfl),_,rfl⟩

def zIn(S:List Nat)(w:World)(e:Ending)(w':World):Prop:=e=.panicked [{ v:=.iface 183 (.agg #[]),recovered:=false }]∧Only S w w'
def At(g:Nat)(s:ByteArray)(p:Nat)(w:World):Prop:=Blk w g 180 #[.string s,.int .i64 p]
def zFM(g:Nat)(s:ByteArray)(p:Nat)(ok:Bool)(w:World)(e:Ending)(w':World):Prop :=
 if ok=true then e=.returned (.tuple #[])∧At g s (p+1) w'∧Only [g] w w' else zIn [g] w e w'

theorem zIo{g:Nat}{s:ByteArray}{p:Nat}{ok:Bool}{w w':World}(h:ok=false)(ho:Only [g] w w'):zFM g s p ok w (.panicked [{ v:=.iface 183 (.agg #[]),recovered:=false }]) w':=by
 subst h;exact⟨rfl,ho⟩
theorem zKN{g:Nat}{s:ByteArray}{p:Nat}{ok:Bool}{w w':World}(h:ok=true)(hb:At g s (p+1) w')(ho:Only [g] w w'):zFM g s p ok w (.returned (.tuple #[])) w':=by
 subst h;exact⟨rfl,hb,ho⟩
theorem zHE(w:World)(g:Nat)(s:ByteArray)(p:Nat)(c:Int)(hb:At g s p w)(hs:s.size<=maxLen) :
  Calls prog 147 #[.pointer (some ⟨g,0,none⟩),.int .u8 c] w (zFM g s p (zAw s p c) w):=by
 unfold maxLen at hs
 have HB:=zAA hb
 have HO:=zAA (Only.refl [g] w)
 have k0:=hb.cell 0
 have k1:=hb.cell 1
 have f1:=hb.frozen 1
 simp at k0 k1
 clear hb
 by_cases hlt:p<s.size
 ·have hlt':¬(s.size:Int)<=p:=by omega
  have hd:decide (s.size<=p)=false:=decide_eq_false (by omega)
  cases hc:((s[p].toNat:Int)==c)with
  | true =>
   have HV:=zAA (show zAw s p c=true by unfold zAw;rw[dif_pos hlt];exact hc)
   have hn:((s[p].toNat:Int) != c)=false:=by simpa [bne] using hc
   go_enter func147,ntmps147
   go_wp2_with fail
   go_quiet (fail)
   go_wp2_with fail
   go_end0
   exact zKN HV.out ((HB.out.drewN _).set_ 1 _) ((HO.out.drewN _).setCell (p:=⟨g,1,none⟩) (.inl (by simp)) _)
  | false =>
   have HV:=zAA (show zAw s p c=false by unfold zAw;rw[dif_pos hlt];exact hc)
   have hn:((s[p].toNat:Int) != c)=true:=by simpa [bne] using hc
   go_enter func147,ntmps147
   go_wp2_with fail
   go_quiet (fail)
   go_wp2_with fail
   exact⟨rfl,zIo HV.out (HO.out.drewN _)⟩
 ·have hlt':(s.size:Int)<=p:=by omega
  have hd:decide (s.size<=p)=true:=decide_eq_true (by omega)
  have HV:=zAA (show zAw s p c=false by unfold zAw;rw[dif_neg hlt])
  go_enter func147,ntmps147
  go_wp2_with fail
  go_quiet (fail)
  go_wp2_with fail
  exact⟨rfl,zIo HV.out (HO.out.drewN _)⟩
end
section
open Go.Proofs.Tryz
set_option maxHeartbeats 3200000
set_option maxRecDepth 100000
open Go.RowKit Go.Deep

def zHF(g:Nat)(s:ByteArray)(p:Nat)(w:World)(e:Ending)(w':World):Prop :=
 e=.returned (.string (s.extract p (zBV s p)))∧At g s (zBV s p) w'∧Only [g] w w'

theorem zIp(c:UInt8):c.toNat<256:=c.toNat_lt
theorem zCu{c:UInt8}{n:Nat}(h:(c==UInt8.ofNat n)=false)(hn:n<256):((c.toNat:Int) != n)=true:=by
 have h1:c.toNat≠n:=by
  intro e
  subst e
  simp at h
 simp only[bne_iff_ne,ne_eq]
 omega
theorem zIq{c:UInt8}(h:del c=false):((c.toNat:Int) != 44)=true∧((c.toNat:Int) != 41)=true∧((c.toNat:Int) != 40)=true:=by
 unfold del at h
 simp only[Bool.or_eq_false_iff]at h
 exact⟨zCu (n:=44) h.1.1 (by decide),zCu (n:=41) h.1.2 (by decide),zCu (n:=40) h.2 (by decide)⟩
theorem zKO{c:UInt8}(h:del c=true):((c.toNat:Int) != 44)=false∨(((c.toNat:Int) != 44)=true∧((c.toNat:Int) != 41)=false) ∨
  (((c.toNat:Int) != 44)=true∧((c.toNat:Int) != 41)=true∧((c.toNat:Int) != 40)=false):=by
 unfold del at h
 simp only[Bool.or_eq_true,beq_iff_eq]at h
 rcases h with (h|h)|h
 ·subst h;exact .inl rfl
 ·subst h;exact .inr (.inl ⟨rfl,rfl⟩)
 ·subst h;exact .inr (.inr ⟨rfl,rfl,rfl⟩)
theorem zHG{g:Nat}{s:ByteArray}{p j:Nat}{w w':World}(h:zBV s p=j)(hb:At g s j w')(ho:Only [g] w w'):zHF g s p w (.returned (.string (s.extract p j))) w':=by
 subst h;exact⟨rfl,hb,ho⟩

theorem zHH(w:World)(g:Nat)(s:ByteArray)(p:Nat)(hb:At g s p w)(hp:p<=s.size)(hs:s.size<=maxLen) :
  Calls prog 146 #[.pointer (some ⟨g,0,none⟩)] w (zHF g s p w):=by
 unfold maxLen at hs
 have HB:=zAA hb
 have k0:=hb.cell 0
 have k1:=hb.cell 1
 simp at k0 k1
 clear hb
 go_enter func146,ntmps146
 go_wp2_with fail
 clear k0 k1
 go_loopg [] (s.size-p) (fun gk wr=>∃j:Nat,p<=j∧j<=s.size∧gk+j=s.size∧Hid (zBV s j=zBV s p)∧Hid (At g s j wr)∧Hid (Only [g] w wr))
 case atStart=>exact⟨p,Nat.le_refl _,hp,by omega,zAA rfl,HB,zAA (Only.refl _ _)⟩
 case round =>
  obtain⟨j,hpj,hj,hgk,hw,HA,HO⟩:=hrel
  have k0:=HA.out.cell 0
  have k1:=HA.out.cell 1
  have f1:=HA.out.frozen 1
  simp at k0 k1
  have HG:=zAA hgk
  clear hgk
  by_cases hlt:j<s.size
  ·have hlt':(j:Int)<s.size:=by omega
   have hd:decide (j<s.size)=true:=decide_eq_true hlt
   cases hc:del s[j]with
   | false =>
    have HS:=zAA (zIl s j hlt hc)
    obtain⟨h1,h2,h3⟩:=zIq hc
    clear hc
    go_wp2_with fail
    go_quiet (fail)
    go_wp2_with fail
    go_roundg (gk-1)
    case rel=>exact⟨j+1,by omega,by omega,by have:=HG.out;omega,zAA (HS.out.trans hw.out),zAA (HA.out.drewN _ |>.set_ 1 _),zAA ((HO.out.drewN _).setCell (p:=⟨g,1,none⟩) (.inl (by simp)) _)⟩
    case measure=>have:=HG.out;omega
   | true =>
    have HS:=zAA ((zIk s j hlt hc).symm.trans hw.out).symm
    rcases zKO hc with h1|⟨h1,h2⟩|⟨h1,h2,h3⟩
    all_goals
     clear hc
     go_wp2_with fail
     go_quiet (fail)
     go_wp2_with fail
     go_quiet (fail)
     go_wp2_with fail
     go_ret
     exact zHG HS.out ((HA.out.drewN _).drewN _) ((HO.out.drewN _).drewN _)
  ·have hlt':¬(j:Int)<s.size:=by omega
   have hd:decide (j<s.size)=false:=decide_eq_false hlt
   have HS:=zAA ((zKM s j (by omega)).symm.trans hw.out).symm
   go_wp2_with fail
   go_quiet (fail)
   go_wp2_with fail
   go_quiet (fail)
   go_wp2_with fail
   go_ret
   exact zHG HS.out ((HA.out.drewN _).drewN _) ((HO.out.drewN _).drewN _)
end
section
open Go.RowKit Go.Deep

def zCf(c:UInt8):Bool:=decide (48<=c.toNat)&&decide (c.toNat<=57)
def zCM:List UInt8->Nat->Option Nat
 | [],u=>some u
 | c::r,u=>if 1844674407370955161<u∨(u=1844674407370955161∧5<c.toNat-48)then none else zCM r (u*10+(c.toNat-48))
def zCT(l:List UInt8):Nat×Nat :=
 if l=[]then (0,3)else if l.all zCf=false then (0,3)else if l.head?=some 48∧1<l.length then (0,3)else
  match zCM l 0 with
  | none=>(0,5)
  | some u=>(u,0)
theorem zIr:∀(l:List UInt8) (u v:Nat),l.all zCf=true->u<18446744073709551616->zCM l u=some v->v<18446744073709551616
 | [],u,v,_,hu,h=>by simp[zCM]at h;omega
 | c::r,u,v,hd,hu,h=>by
  rw[zCM]at h
  split at h
  ·cases h
  ·rename_i hn
   simp only[List.all_cons,Bool.and_eq_true]at hd
   have h2:=hd.1
   unfold zCf at h2
   simp only[Bool.and_eq_true,decide_eq_true_eq]at h2
   exact zIr r _ v hd.2 (by omega) h
theorem zEN(l:List UInt8):(zCT l).1<18446744073709551616:=by
 unfold zCT
 split
 ·decide
 ·split
  ·decide
  ·split
   ·decide
   ·rename_i h1 h2 h3
    split
    ·decide
    ·rename_i u hu
     exact zIr l 0 u (by simpa using h2) (by decide) hu
def zEC(r:Nat×Nat)(w:World)(e:Ending)(w':World):Prop:=e=.returned (.tuple #[.int .u64 r.1,.int .i64 r.2])∧Only [] w w'
theorem zLd{a b:Nat}{r:Nat×Nat}{w w':World}(h:r=(a,b))(ho:Only [] w w'):zEC r w (.returned (.tuple #[.int .u64 a,.int .i64 b])) w':=by
 subst h;exact⟨rfl,ho⟩
theorem zBg(w:World)(s:ByteArray)(p:Nat):Only [] w (w.iter s p):=(Only.refl [] w).alloc _
theorem zIs(l:List UInt8)(i:Nat)(h:i<l.length)(hd:zCf l[i]=false):l.all zCf=false:=by
 rw[List.all_eq_false]
 exact⟨l[i],List.getElem_mem h,by simp[hd]⟩
theorem zFN(l:List UInt8)(h:∀i (hi:i<l.length),zCf l[i]=true):l.all zCf=true:=by
 rw[List.all_eq_true]
 intro x hx
 obtain⟨i,hi,rfl⟩:=List.getElem_of_mem hx
 exact h i hi
theorem zHI(s:ByteArray)(h:s.size=0):s.data.toList=[]:=by
 rw[List.eq_nil_iff_length_eq_zero,Array.length_toList];exact h
theorem zEO(s:ByteArray)(h:0<s.size):s.data.toList≠[]:=by
 intro e
 have:s.data.toList.length=0:=by rw[e];rfl
 rw[Array.length_toList]at this
 have h2:s.data.size=s.size:=rfl
 omega
theorem zE0(s:ByteArray)(h:s.size=0):zCT s.data.toList=(0,3):=by unfold zCT;rw[if_pos (zHI s h)]
theorem zHJ(s:ByteArray)(i:Nat)(h:i<s.size)(hd:zCf s[i]=false):zCT s.data.toList=(0,3):=by
 unfold zCT;rw[if_neg (zEO s (by omega)),if_pos (zIs _ i (by simpa using h) hd)]
theorem zFv(s:ByteArray)(h:1<s.size)(hd:s[0].toNat=48):zCT s.data.toList=(0,3):=by
 have hl:s.data.toList.length=s.size:=rfl
 have hh:s.data.toList.head?=some 48:=by
  rw[List.head?_eq_getElem?,List.getElem?_eq_getElem (by omega)]
  congr 1
  exact UInt8.toNat_inj.1 hd
 unfold zCT
 split
 ·rfl
 ·split
  ·rfl
  ·rw[if_pos ⟨hh,by omega⟩]
theorem zGg(s:ByteArray)(h:0<s.size)(hd:s.data.toList.all zCf=true)(h0:¬(s[0].toNat=48∧1<s.size)) :
  zCT s.data.toList=match zCM s.data.toList 0 with|none=>(0,5)|some u=>(u,0):=by
 have hl:s.data.toList.length=s.size:=rfl
 unfold zCT
 rw[if_neg (zEO s h),if_neg (by simp[hd]),if_neg]
 rintro⟨a,b⟩
 refine h0 ⟨?_,by omega⟩
 rw[List.head?_eq_getElem?,List.getElem?_eq_getElem (by omega)]at a
 simp only[Option.some.injEq]at a
 have:s[0]=48:=a
 rw[this]
 rfl
end
section
open Go.Proofs.Tryz
set_option maxHeartbeats 6400000
set_option maxRecDepth 100000
open Go.RowKit Go.Deep

def zMZ(s:ByteArray)(k:Nat):Prop:=∀i (h:i<s.size),i<k->zCf s[i]=true
def zKP(w:World)(s:ByteArray)(a':Act)(w':World):Prop :=
 ∃(K U:Int) (u1 u2 u3 u4 u5 u8 u9 u10 u11 u12 u13 u14 u15 u16 u17 u18 u19 u20 u21 u22 u23 u24 u25 u26 u27 u28 u29 u30 u31 u32 u33 u34 u35 u36 u37 u38 u39 u40 u41 u42 u43 u44 u45 u46 u47 u48 u49 u50 u51 u52 u53 u54 u55:Value),a'=⟨#[.string s,u1,u2,u3,u4,u5,.int .u64 U,.int .i64 K,u8,u9,u10,u11,u12,u13,u14,u15,u16,u17,u18,u19,u20,u21,u22,u23,u24,u25,u26,u27,u28,u29,u30,u31,u32,u33,u34,u35,u36,u37,u38,u39,u40,u41,u42,u43,u44,u45,u46,u47,u48,u49,u50,u51,u52,u53,u54,u55],[]⟩∧w'=w.iter s s.size∧∃k u:Nat,K=k∧U=u∧k<=s.size∧u<18446744073709551616∧zMZ s s.size∧¬(1<s.size∧s.data.toList.head?=some 48)∧zCM (s.data.toList.drop k) u=zCM s.data.toList 0

theorem zKQ(s:ByteArray)(h:s.size=0):s.toList.isEmpty=true:=by rw[ByteArray.toList_eq,zHI s h];rfl
theorem zKR(s:ByteArray)(h:0<s.size):s.toList.isEmpty=false:=by
 rw[ByteArray.toList_eq]
 cases hl:s.data.toList with
 | nil=>exact absurd hl (zEO s h)
 | cons _ _=>rfl
theorem zEu(w:World)(s:ByteArray)(h0:s.size=0) :
  Calls prog 166 #[.string s] w (zEC (zCT s.data.toList) w):=by
 have HR:=zAA (zE0 s h0)
 have he2:=zKQ s h0
 clear h0
 go_enter func166,ntmps166
 go_wp2_with fail
 refine wp_scope_jumps 0 (fun _ _=>False) (fun _ _=>0) rfl ?_ ?_
 ·go_wp2_with fail
  simp only[Exit.jump]
  refine bodyPost_ret (results_tmp2 rfl _ _ _) rfl ?_
  exact zLd HR.out (Only.refl _ _)
 ·intro a' w' h
  cases h
theorem zFw{s:ByteArray}{k:Nat}(h:zMZ s k)(hk:k<s.size)(hd:zCf s[k]=true):zMZ s (k+1):=by
 intro i hi hik
 by_cases e:i=k
 ·subst e;exact hd
 ·exact h i hi (by omega)

theorem zLe{s:ByteArray}(hp:0<s.size)(h:¬(s[0].toNat=48∧1<s.size)):¬(1<s.size∧s.data.toList.head?=some 48):=by
 rintro⟨a,b⟩
 refine h ⟨?_,a⟩
 rw[List.head?_eq_getElem?,List.getElem?_eq_getElem (by simpa using hp)]at b
 simp only[Option.some.injEq]at b
 have:s[0]=48:=b
 rw[this]
 rfl
theorem zLf{s:ByteArray}(hp:0<s.size)(h:¬(1<s.size∧s.data.toList.head?=some 48)):¬(s[0].toNat=48∧1<s.size):=by
 rintro⟨a,b⟩
 refine h ⟨b,?_⟩
 rw[List.head?_eq_getElem?,List.getElem?_eq_getElem (by simpa using hp)]
 congr 1
 exact UInt8.toNat_inj.1 a
theorem zHu(s:ByteArray)(k:Nat)(h:k<s.size)(hd:zCf s[k]=true):Utf8.decode s k=(s[k].toNat,1):=by
 refine decode_ascii s k h ?_
 simp[zCf]at hd
 omega
theorem zHv(s:ByteArray)(k:Nat)(h:k<s.size)(hd:zCf s[k]=false):(Utf8.decode s k).1<48∨57<(Utf8.decode s k).1:=by
 by_cases ha:s[k].toNat<128
 ·rw[decode_ascii s k h ha]
  simp[zCf]at hd
  simp only
  omega
 ·have:=(decode_high s k h (by omega)).1
  omega

theorem zFO(w:World)(s:ByteArray)(hs:s.size<=maxLen)(hpos:0<s.size) :
  Calls prog 166 #[.string s] w (zEC (zCT s.data.toList) w):=by
 unfold maxLen at hs
 have he2:=zKR s hpos
 go_enter func166,ntmps166
 go_wp2_with fail
 refine wp_scope_jumps 0 (zKP w s) (fun a' _=>s.size-(intOf (a'.tmps.getD 7 undef)).toNat) rfl ?_ ?_
 ·go_wp2_with fail
  go_loopg [5] s.size (fun gk r wr=>∃k:Nat,k<=s.size∧gk+k=s.size∧Hid (zMZ s k)∧wr=w.iter s k)
  case atStart=>exact⟨0,Nat.zero_le _,by omega,zAA (fun i _ h=>by omega),rfl⟩
  case round =>
   obtain⟨k,hk,hgk,hdg,rfl⟩:=hrel
   have HG:=zAA hgk
   clear hgk
   by_cases hlt:k<s.size
   ·have hnx:∀ty,(Instr.next (.pointer (some ⟨w.heap.size,0,none⟩)) true ty).run prog (w.iter s k)=_:=fun ty=>run_next_any w s k ty hlt
    cases hd:zCf s[k]with
    | true =>
     rw[zHu s k hlt hd]at hnx
     have hc1:48<=s[k].toNat:=by simp[zCf]at hd;omega
     have hc2:s[k].toNat<=57:=by simp[zCf]at hd;omega
     have hc1':(48:Int)<=s[k].toNat:=by omega
     have hc2':(s[k].toNat:Int)<=57:=by omega
     have HS:=zAA (zFw hdg.out hlt hd)
     clear hd
     go_wp2_with fail
     go_roundg (gk-1)
     case rel=>exact⟨k+1,by omega,by have:=HG.out;omega,HS,rfl⟩
     case measure=>have:=HG.out;omega
    | false =>
     have hb:=zHv s k hlt hd
     have HR:=zAA (zHJ s k hlt hd)
     have hr:=decode_le s k
     clear hd
     generalize Utf8.decode s k=d at *
     obtain⟨r,n⟩:=d
     simp only at hb hr hnx
     rcases hb with hb|hb
     ·have hb':(r:Int)<48:=by omega
      go_wp2_with fail
      simp only[Exit.jump]
      refine bodyPost_ret (results_tmp2 rfl _ _ _) rfl ?_
      exact zLd HR.out (zBg w s _)
     ·have hb':(57:Int)<r:=by omega
      have hb2:¬(r:Int)<48:=by omega
      go_wp2_with fail
      simp only[Exit.jump]
      refine bodyPost_ret (results_tmp2 rfl _ _ _) rfl ?_
      exact zLd HR.out (zBg w s _)
   ·obtain rfl:k=s.size:=by omega
    have hnx:∀ty,(Instr.next (.pointer (some ⟨w.heap.size,0,none⟩)) true ty).run prog (w.iter s s.size)=_:=fun ty=>run_next_end w s s.size ty hlt
    have HALL:=zAA (zFN s.data.toList fun i hi=>hdg.out i (by simpa using hi) (by simpa using hi))
    by_cases hlead:s[0].toNat=48∧1<s.size
    ·obtain⟨h1,h2⟩:=hlead
     have HR:=zAA (zFv s h2 h1)
     have h1':((s[0].toNat:Int)==48)=true:=by rw[beq_iff_eq];omega
     have h2':(1:Int)<s.size:=by omega
     clear h1
     go_wp2_with fail
     simp only[Exit.jump]
     refine bodyPost_ret (results_tmp2 rfl _ _ _) rfl ?_
     exact zLd HR.out (zBg w s _)
    ·have HGO:=zAA (zGg s hpos HALL.out hlead)
     have HDG:=zAA hdg.out
     have HLD:=zAA (zLe hpos hlead)
     have HACC:=zAA (show zCM (s.data.toList.drop 0) 0=zCM s.data.toList 0 from rfl)
     have hlt0:0<s.size:=hpos
     have hltI:(0:Int)<s.size:=by omega
     have hb2:((0:Int)==(s.size:Int))=false:=by rw[beq_eq_false_iff_ne];omega
     have HDR:=zAA (zBp s 0 hpos)
     have HC:=hdg.out 0 hpos hpos
     have hc1:48<=s[0].toNat:=by simp[zCf]at HC;omega
     have hc2:s[0].toNat<=57:=by simp[zCf]at HC;omega
     have hc1':(48:Int)<=s[0].toNat:=by omega
     have hc2':(s[0].toNat:Int)<=57:=by omega
     have HN:=zAA (show zCM (s.data.toList.drop (0+1)) (s[0].toNat-48)=zCM s.data.toList 0 from by rw[<-HACC.out,HDR.out,zCM,if_neg (by omega)];simp only[Nat.zero_mul,Nat.zero_add])
     clear HC
     by_cases h1:s[0].toNat=48
     ·have h1':((s[0].toNat:Int)==48)=true:=by rw[beq_iff_eq];omega
      have h2':¬(1:Int)<s.size:=by omega
      clear h1 hlead
      go_wp2_with fail
      go_step3
      go_wp2_with fail
      go_step3
      exact⟨rfl,_,_,_,_,_,_,_,_,_,_,_,_,_,_,_,_,_,_,_,_,_,_,_,_,_,_,_,_,_,_,_,_,_,_,_,_,_,_,_,_,_,_,_,_,_,_,_,_,_,_,_,_,_,_,_,rfl,rfl,1,s[0].toNat-48,by omega,by omega,by omega,by omega,HDG.out,HLD.out,HN.out⟩
     ·have h1':((s[0].toNat:Int)==48)=false:=by rw[beq_eq_false_iff_ne];omega
      clear h1 hlead
      go_wp2_with fail
      go_step3
      go_wp2_with fail
      go_step3
      exact⟨rfl,_,_,_,_,_,_,_,_,_,_,_,_,_,_,_,_,_,_,_,_,_,_,_,_,_,_,_,_,_,_,_,_,_,_,_,_,_,_,_,_,_,_,_,_,_,_,_,_,_,_,_,_,_,_,_,rfl,rfl,1,s[0].toNat-48,by omega,by omega,by omega,by omega,HDG.out,HLD.out,HN.out⟩
 ·rintro a' w' ⟨K,U,u1,u2,u3,u4,u5,u8,u9,u10,u11,u12,u13,u14,u15,u16,u17,u18,u19,u20,u21,u22,u23,u24,u25,u26,u27,u28,u29,u30,u31,u32,u33,u34,u35,u36,u37,u38,u39,u40,u41,u42,u43,u44,u45,u46,u47,u48,u49,u50,u51,u52,u53,u54,u55,rfl,rfl,k,u,rfl,rfl,hk,hu,hdg,hld,hacc⟩
  have HDG:=zAA hdg
  have HLD:=zAA hld
  have HACC:=zAA hacc
  have HALL:=zAA hdg
  have HGO:=zAA (zGg s hpos (zFN s.data.toList fun i hi=>hdg i (by simpa using hi) (by simpa using hi)) (zLf hpos hld))
  clear hdg hld hacc
  by_cases hke:k=s.size
  ·have HR:=zAA (show zCT s.data.toList=(u,0)from by rw[HGO.out,<-HACC.out,hke,show List.drop s.size s.data.toList=[]from List.drop_of_length_le (Nat.le_of_eq rfl)];rfl)
   have hb2:((k:Int)==(s.size:Int))=true:=by rw[beq_iff_eq];omega
   clear hke
   go_wp2_with fail
   simp only[Exit.jump]
   refine bodyPost_ret (results_tmp2 rfl _ _ _) rfl ?_
   exact zLd HR.out (zBg w s s.size)
  ·have hlt:k<s.size:=by omega
   have hlt':(k:Int)<s.size:=by omega
   have hb2:((k:Int)==(s.size:Int))=false:=by rw[beq_eq_false_iff_ne];omega
   have HDR:=zAA (zBp s k hlt)
   have HC:=HALL.out k hlt hlt
   have hc1:48<=s[k].toNat:=by simp[zCf]at HC;omega
   have hc2:s[k].toNat<=57:=by simp[zCf]at HC;omega
   have hc1':(48:Int)<=s[k].toNat:=by omega
   have hc2':(s[k].toNat:Int)<=57:=by omega
   clear HC hke
   by_cases h1:1844674407370955161<u
   ·have HR:=zAA (show zCT s.data.toList=(0,5)from by rw[HGO.out,<-HACC.out,HDR.out,zCM,if_pos (.inl h1)])
    have h1':(1844674407370955161:Int)<u:=by omega
    clear h1
    go_wp2_with fail
    simp only[Exit.jump]
    refine bodyPost_ret (results_tmp2 rfl _ _ _) rfl ?_
    exact zLd HR.out (zBg w s s.size)
   ·have h1':¬(1844674407370955161:Int)<u:=by omega
    by_cases h2:u=1844674407370955161
    ·have HU:=zAA h2
     have h2':((u:Int)==1844674407370955161)=true:=by rw[beq_iff_eq];omega
     by_cases h3:53<s[k].toNat
     ·have HR:=zAA (show zCT s.data.toList=(0,5)from by rw[HGO.out,<-HACC.out,HDR.out,zCM,if_pos (.inr ⟨HU.out,by omega⟩)])
      have h3':(5:Int)<s[k].toNat-48:=by omega
      clear h1 h2 h3
      go_wp2_with fail
      simp only[Exit.jump]
      refine bodyPost_ret (results_tmp2 rfl _ _ _) rfl ?_
      exact zLd HR.out (zBg w s s.size)
     ·have HN:=zAA (show zCM (s.data.toList.drop (k+1)) (u*10+(s[k].toNat-48))=zCM s.data.toList 0 from by rw[<-HACC.out,HDR.out,zCM,if_neg (by omega)])
      have h3':¬(5:Int)<s[k].toNat-48:=by omega
      have hlim:u*10+(s[k].toNat-48)<18446744073709551616:=by omega
      clear h1 h2 h3
      go_wp2_with fail
      go_step3
      refine⟨rfl,⟨_,_,_,_,_,_,_,_,_,_,_,_,_,_,_,_,_,_,_,_,_,_,_,_,_,_,_,_,_,_,_,_,_,_,_,_,_,_,_,_,_,_,_,_,_,_,_,_,_,_,_,_,_,_,_,rfl,rfl,k+1,u*10+(s[k].toNat-48),by omega,by omega,by omega,hlim,HDG.out,HLD.out,HN.out⟩,?_⟩
      simp[intOf]
      omega
    ·have HN:=zAA (show zCM (s.data.toList.drop (k+1)) (u*10+(s[k].toNat-48))=zCM s.data.toList 0 from by rw[<-HACC.out,HDR.out,zCM,if_neg (by omega)])
     have h2':((u:Int)==1844674407370955161)=false:=by rw[beq_eq_false_iff_ne];omega
     have hlim:u*10+(s[k].toNat-48)<18446744073709551616:=by omega
     have hu1:(u:Int)<=1844674407370955160:=by omega
     clear h1 h2
     go_wp2_with fail
     go_step3
     refine⟨rfl,⟨_,_,_,_,_,_,_,_,_,_,_,_,_,_,_,_,_,_,_,_,_,_,_,_,_,_,_,_,_,_,_,_,_,_,_,_,_,_,_,_,_,_,_,_,_,_,_,_,_,_,_,_,_,_,_,rfl,rfl,k+1,u*10+(s[k].toNat-48),by omega,by omega,by omega,hlim,HDG.out,HLD.out,HN.out⟩,?_⟩
     simp[intOf]
     omega
end
end Go.Proofs.YtfipdjlalfpbnaaGreatDoor
