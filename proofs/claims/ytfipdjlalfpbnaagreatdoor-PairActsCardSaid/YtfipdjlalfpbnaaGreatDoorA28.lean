/-
  Walks and plain words (texts Rm). No condition beyond those that each theorem states.
-/
import Derived.Test.YtfipdjlalfpbnaaGreatDoorA27
namespace Go.Proofs.YtfipdjlalfpbnaaGreatDoor
section
open Go.Proofs.Tryz
set_option maxHeartbeats 12800000
set_option maxRecDepth 100000
open Go.RowKit Go.Deep

theorem zAO(a b:List UInt8):zAD a++zAD b=zAD (a++b):=by
 apply ByteArray.ext
 rw[ByteArray.data_append]
 show a.toArray++b.toArray=(a++b).toArray
 simp
def zD4(k:Int)(n:Nat)(l:List ByteArray):List UInt8:=zCI k::40::(if zAK k=true then Lib.decDigits n++(if l=[]then []else [44])else [])
theorem zDl(k:Int)(n:Nat)(b:List UInt8)(l:List ByteArray)(h5:5<=k):zA5 k n b l=zD4 k n l++zAI l++[41]:=by
 unfold zA5 zD4
 rw[if_neg (by omega),if_neg (by omega),if_neg (by omega)]
 simp
theorem zDm(k:Int)(n:Nat)(hn:n<18446744073709551616)(l:List ByteArray):(zD4 k n l).length<=40:=by
 unfold zD4
 have:=zCP n hn
 split
 ·split<;>simp<;>omega
 ·simp
theorem zBJ{p:ByteArray}(h:(zAE p).isSome=true):p.size<=65536:=by
 obtain⟨nd,h⟩:=Option.isSome_iff_exists.1 h
 exact zDE h
theorem zA0(l:List ByteArray)(j:Nat):(∀i,i<j->(zAE (l.getD i ByteArray.empty)).isSome=true)->j<=l.length->(zAI (l.take j)).length<=j*65537:=by
 induction j with
 | zero=>intro _ _;simp[zAI]
 | succ j ih =>
  intro h hj
  rw[zAs l j (by omega)]
  have h1:=ih (fun i hi=>h i (by omega)) (by omega)
  have h2:=zBJ (h j (by omega))
  rw[List.length_append,List.length_append]
  have h3:(l.getD j ByteArray.empty).data.toList.length=(l.getD j ByteArray.empty).size:=rfl
  have h4:(if j=0 then ([]:List UInt8)else [44]).length<=1:=by split<;>simp
  omega
section plain
variable {k:Int} {n:Nat} {b:List UInt8} {l:List ByteArray}
theorem zHk(hp:∀i,i<(zAZ k l).length->(zAE ((zAZ k l).getD i ByteArray.empty)).isSome=true):∀p∈zAZ k l,(zAE p).isSome=true:=by
 intro p hp2
 obtain⟨j,hj,rfl⟩:=List.mem_iff_getElem.1 hp2
 have h:=hp j hj
 rwa [List.getD_eq_getElem?_getD,List.getElem?_eq_getElem hj,Option.getD_some]at h
theorem zC5(h:1<=k∧k<=11)(hn:n<18446744073709551616)(h4:k<=4->l=[])(hp:∀i,i<(zAZ k l).length->(zAE ((zAZ k l).getD i ByteArray.empty)).isSome=true)
  (hs:(zAE (zAD (zA5 k n b (zAZ k l)))).isSome=true):zAS k n b l=zAD (zA5 k n b (zAZ k l)):=by
 have hall:=zHk hp
 rw[zEj k n b (zAZ k l) h.1 h.2 hn hall (fun hk=>by rw[h4 hk];exact zBH (by omega) [])]at hs
 by_cases hok:okV k n (zAZ k l)∧(zA5 k n b (zAZ k l)).length<=65536
 ·exact if_pos ⟨h.1,h.2,hok.1.1,by rw[<-zDC k l];exact hok.1.2.1,fun p hp2=>hall p ((zDD k l p).2 hp2),hok.2⟩
 ·rw[if_neg hok]at hs;cases hs
theorem zDn(h:1<=k∧k<=11)(hn:n<18446744073709551616)(h4:k<=4->l=[])(hp:∀i,i<(zAZ k l).length->(zAE ((zAZ k l).getD i ByteArray.empty)).isSome=true)
  (hs:(zAE (zAD (zA5 k n b (zAZ k l)))).isSome=false):zAS k n b l=ByteArray.empty:=by
 have hall:=zHk hp
 rw[zEj k n b (zAZ k l) h.1 h.2 hn hall (fun hk=>by rw[h4 hk];exact zBH (by omega) [])]at hs
 by_cases hok:okV k n (zAZ k l)∧(zA5 k n b (zAZ k l)).length<=65536
 ·rw[if_pos hok]at hs;cases hs
 ·exact zCR (fun⟨_,_,c1,c2,_,c3⟩=>hok ⟨⟨c1,by rw[zDC];exact c2,zE7 k l⟩,c3⟩)
theorem zDJ{i:Nat}(hi:i<(zAZ k l).length)(h:(zAE ((zAZ k l).getD i ByteArray.empty)).isSome=false):zAS k n b l=ByteArray.empty:=zCR (by
 rintro⟨_,_,_,_,hp,_⟩
 have:=hp ((zAZ k l).getD i ByteArray.empty) ((zDD k l _).1 (by rw[List.getD_eq_getElem?_getD,List.getElem?_eq_getElem hi];exact List.getElem_mem hi))
 rw[h]at this
 exact Bool.noConfusion this)
theorem zIU(h1:1<=k)(h:k<=4)(hl:l≠[]):zAS k n b l=ByteArray.empty:=zCR (fun⟨_,_,_,hf,_,_⟩=>hl ((zJV h1 h l).1 hf))
end plain
theorem zJr(k:Int)(n:Nat)(hn:n<18446744073709551616)(b:List UInt8)(h4:k<=4)(hb:b.length<=100000):(zAD (zA5 k n b [])).size<=300000:=by
 rw[zAF]
 unfold zA5
 have:=zCP n hn
 have:=zBP b
 rw[List.length_cons]
 split
 ·omega
 ·split
  ·omega
  ·first|(rw[if_pos h4];simp;done)|simp
theorem zG2(k:Int)(h1:1<=k)(h4:k<=4)(n:Nat)(hn:n<18446744073709551616)(bv lv:Value)(b:List UInt8)(hbl:b.length<=100000)(l:List ByteArray)(w:World)
  (hb:Rd w [] bv (zBR .u8 (zBo b))) (hv:Rd w [] lv (zAq l)) :
  Calls prog 101 #[.int .i64 k,.int .u64 n,bv,lv] w (zBS (zAS k n b l) w):=by
 obtain⟨A,cap,rfl,hc1,hc2⟩:=hv.form
 unfold maxLen at hc2
 rw[zBN]at hv hc1 ⊢
 have HPR:=zAA (fun W=>zF8 n hn W)
 have HHX:=zAA (zLr w [] _ b hb (by omega))
 have HLX:=zAA (zBP b)
 have HLD:=zAA (zCP n hn)
 have HBL:=zAA hbl
 unfold zBr at HPR HHX
 have hexI:¬9223372036854775807<1+(zCs b).length:=by have:=HLX.out;omega
 have decI:¬9223372036854775807<1+(Lib.decDigits n).length:=by have:=HLD.out;omega
 by_cases hl:l=[]
 ·subst hl
  have HY:=zAA (fun(h:(zAE (zAD (zA5 k n b (zAZ k [])))).isSome=true)=>zC5 (n:=n) (b:=b) (l:=[]) ⟨h1,by omega⟩ hn (fun _=>rfl) (by rw[zBH (by omega)];intro i hi;exact absurd hi (Nat.not_lt_zero i)) h)
  have HNO:=zAA (fun(h:(zAE (zAD (zA5 k n b (zAZ k [])))).isSome=false)=>zDn (n:=n) (b:=b) (l:=[]) ⟨h1,by omega⟩ hn (fun _=>rfl) (by rw[zBH (by omega)];intro i hi;exact absurd hi (Nat.not_lt_zero i)) h)
  rw[zBH (by omega)]at HY HNO
  have HIS:=zAA (fun W=>zAd W (zAD (zA5 k n b [])) (by have:=zJr k n hn b h4 hbl;unfold maxLen;omega))
  unfold zAn at HIS
  have HC:=zAA (Only.refl [] w)
  clear hb hv hn hbl
  rcases(show k=1∨k=2∨k=3∨k=4 by omega)with rfl|rfl|rfl|rfl
  ·have hsl:∀W,(Instr.sliceAt 9 (.string ⟨#[48,97,110,120,112,100,104,107,109,115,108]⟩) (some (.int .i64 0)) (some (.int .i64 1)) none).run prog W=.ok (.string ⟨#[48]⟩) W:=fun W=>by kernel_rfl
   have htt:zAD (zA5 1 n b [])=⟨#[48]⟩:=rfl
   rw[htt]at HY HNO HIS
   rcases Bool.eq_false_or_eq_true (zAE ⟨#[48]⟩).isSome with hq|hq
   all_goals
    rw[hq]at HIS HY HNO
    first
     | (have HM:=zAA (HY.out rfl))|(have HM:=zAA (HNO.out rfl))
    clear hq HY HNO
    go_enter func101,ntmps101
    go_wp2_with (first|(go_at_call 18;refine(HIS.out _).mono ?_;rintro e w2 ⟨rfl,ho⟩;have HC:=zAA (HC.out.trans ho);clear ho))
    go_ret
    exact zAN HM.out HC.out
  ·have hsl:∀W,(Instr.sliceAt 9 (.string ⟨#[48,97,110,120,112,100,104,107,109,115,108]⟩) (some (.int .i64 1)) (some (.int .i64 2)) none).run prog W=.ok (.string ⟨#[97]⟩) W:=fun W=>by kernel_rfl
   have hcat:(⟨#[97]⟩:ByteArray)++⟨(Lib.decDigits n).toArray⟩=zAD (zA5 2 n b []):=zAO [97] (Lib.decDigits n)
   generalize zAD (zA5 2 n b [])=T at *
   rcases Bool.eq_false_or_eq_true (zAE T).isSome with hq|hq
   all_goals
    rw[hq]at HIS HY HNO
    first
     | (have HM:=zAA (HY.out rfl))|(have HM:=zAA (HNO.out rfl))
    clear hq HY HNO
    go_enter func101,ntmps101
    go_wp2_with (first|(go_at_call 128;refine(HPR.out _).mono ?_;rintro e w1 ⟨rfl,ho⟩;have HC:=zAA ho;clear ho)|(go_at_call 18;refine(HIS.out _).mono ?_;rintro e w2 ⟨rfl,ho⟩;have HC:=zAA (HC.out.trans ho);clear ho))
    go_ret
    exact zAN HM.out HC.out
  ·have hsl:∀W,(Instr.sliceAt 9 (.string ⟨#[48,97,110,120,112,100,104,107,109,115,108]⟩) (some (.int .i64 2)) (some (.int .i64 3)) none).run prog W=.ok (.string ⟨#[110]⟩) W:=fun W=>by kernel_rfl
   have hcat:(⟨#[110]⟩:ByteArray)++⟨(Lib.decDigits n).toArray⟩=zAD (zA5 3 n b []):=zAO [110] (Lib.decDigits n)
   generalize zAD (zA5 3 n b [])=T at *
   rcases Bool.eq_false_or_eq_true (zAE T).isSome with hq|hq
   all_goals
    rw[hq]at HIS HY HNO
    first
     | (have HM:=zAA (HY.out rfl))|(have HM:=zAA (HNO.out rfl))
    clear hq HY HNO
    go_enter func101,ntmps101
    go_wp2_with (first|(go_at_call 128;refine(HPR.out _).mono ?_;rintro e w1 ⟨rfl,ho⟩;have HC:=zAA ho;clear ho)|(go_at_call 18;refine(HIS.out _).mono ?_;rintro e w2 ⟨rfl,ho⟩;have HC:=zAA (HC.out.trans ho);clear ho))
    go_ret
    exact zAN HM.out HC.out
  ·have hsl:∀W,(Instr.sliceAt 9 (.string ⟨#[48,97,110,120,112,100,104,107,109,115,108]⟩) (some (.int .i64 3)) (some (.int .i64 4)) none).run prog W=.ok (.string ⟨#[120]⟩) W:=fun W=>by kernel_rfl
   have hcat:(⟨#[120]⟩:ByteArray)++⟨(zCs b).toArray⟩=zAD (zA5 4 n b []):=zAO [120] (zCs b)
   generalize zAD (zA5 4 n b [])=T at *
   rcases Bool.eq_false_or_eq_true (zAE T).isSome with hq|hq
   all_goals
    rw[hq]at HIS HY HNO
    first
     | (have HM:=zAA (HY.out rfl))|(have HM:=zAA (HNO.out rfl))
    clear hq HY HNO
    go_enter func101,ntmps101
    go_wp2_with (first|(go_at_call 129;refine HHX.out.mono ?_;rintro e w1 ⟨rfl,ho⟩;have HC:=zAA ho;clear ho)|(go_at_call 18;refine(HIS.out _).mono ?_;rintro e w2 ⟨rfl,ho⟩;have HC:=zAA (HC.out.trans ho);clear ho))
    go_ret
    exact zAN HM.out HC.out
 ·have HM:=zAA (zIU (n:=n) (b:=b) h1 h4 hl)
  have hposN:0<l.length:=List.length_pos_iff.2 hl
  have hpos:(0:Int)<l.length:=by omega
  have HC:=zAA (Only.refl [] w)
  clear hb hv hn hbl hl
  rcases(show k=1∨k=2∨k=3∨k=4 by omega)with rfl|rfl|rfl|rfl
  ·have hsl:∀W,(Instr.sliceAt 9 (.string ⟨#[48,97,110,120,112,100,104,107,109,115,108]⟩) (some (.int .i64 0)) (some (.int .i64 1)) none).run prog W=.ok (.string ⟨#[48]⟩) W:=fun W=>by kernel_rfl
   go_enter func101,ntmps101
   go_wp2_with fail
   go_ret
   exact zAN HM.out HC.out
  ·have hsl:∀W,(Instr.sliceAt 9 (.string ⟨#[48,97,110,120,112,100,104,107,109,115,108]⟩) (some (.int .i64 1)) (some (.int .i64 2)) none).run prog W=.ok (.string ⟨#[97]⟩) W:=fun W=>by kernel_rfl
   have hcat:(⟨#[97]⟩:ByteArray)++⟨(Lib.decDigits n).toArray⟩=zAD (zA5 2 n b []):=zAO [97] (Lib.decDigits n)
   generalize zAD (zA5 2 n b [])=T at *
   go_enter func101,ntmps101
   go_wp2_with (first|(go_at_call 128;refine(HPR.out _).mono ?_;rintro e w1 ⟨rfl,ho⟩;have HC:=zAA ho;clear ho))
   go_ret
   exact zAN HM.out HC.out
  ·have hsl:∀W,(Instr.sliceAt 9 (.string ⟨#[48,97,110,120,112,100,104,107,109,115,108]⟩) (some (.int .i64 2)) (some (.int .i64 3)) none).run prog W=.ok (.string ⟨#[110]⟩) W:=fun W=>by kernel_rfl
   have hcat:(⟨#[110]⟩:ByteArray)++⟨(Lib.decDigits n).toArray⟩=zAD (zA5 3 n b []):=zAO [110] (Lib.decDigits n)
   generalize zAD (zA5 3 n b [])=T at *
   go_enter func101,ntmps101
   go_wp2_with (first|(go_at_call 128;refine(HPR.out _).mono ?_;rintro e w1 ⟨rfl,ho⟩;have HC:=zAA ho;clear ho))
   go_ret
   exact zAN HM.out HC.out
  ·have hsl:∀W,(Instr.sliceAt 9 (.string ⟨#[48,97,110,120,112,100,104,107,109,115,108]⟩) (some (.int .i64 3)) (some (.int .i64 4)) none).run prog W=.ok (.string ⟨#[120]⟩) W:=fun W=>by kernel_rfl
   have hcat:(⟨#[120]⟩:ByteArray)++⟨(zCs b).toArray⟩=zAD (zA5 4 n b []):=zAO [120] (zCs b)
   generalize zAD (zA5 4 n b [])=T at *
   go_enter func101,ntmps101
   go_wp2_with (first|(go_at_call 129;refine HHX.out.mono ?_;rintro e w1 ⟨rfl,ho⟩;have HC:=zAA ho;clear ho))
   go_ret
   exact zAN HM.out HC.out
end
end Go.Proofs.YtfipdjlalfpbnaaGreatDoor
