/-
  Walks and plain words (texts Jn, Mk0, Bh). No condition beyond those that each theorem states.
-/
import Derived.Test.YtfipdjlalfpbnaaGreatDoorA25
namespace Go.Proofs.YtfipdjlalfpbnaaGreatDoor
section
open Go.Proofs.Tryz
set_option maxHeartbeats 6400000
set_option maxRecDepth 100000
open Go.RowKit Go.Deep

theorem zFB:∀(l:List ByteArray) (x:ByteArray),zAI (l++[x])=zAI l++((if l=[]then []else [44])++x.data.toList)
 | [],x=>by simp[zAI]
 | [a],x=>by simp[zAI]
 | a::b::r,x=>by
  have h:=zFB (b::r) x
  rw[if_neg (by simp)]at h ⊢
  rw[show(a::b::r)++[x]=a::b::(r++[x])from rfl,zAI,show b::(r++[x])=(b::r)++[x]from rfl,h,zAI]
  simp
theorem zAs(l:List ByteArray)(k:Nat)(hk:k<l.length):zAI (l.take (k+1))=zAI (l.take k)++((if k=0 then []else [44])++(l.getD k ByteArray.empty).data.toList):=by
 have h:l.take (k+1)=l.take k++[l.getD k ByteArray.empty]:=by
  rw[List.take_succ_eq_append_getElem hk]
  simp[List.getElem?_eq_getElem hk]
 rw[h,zFB]
 congr 2
 by_cases h0:k=0
 ·subst h0;simp
 ·rw[if_neg h0,if_neg]
  intro e
  have h2:=congrArg List.length e
  rw[List.length_take,List.length_nil]at h2
  omega
theorem zDk(l:List ByteArray)(k:Nat):k<=l.length->(zAI (l.take k)).length<=(zAI l).length:=by
 have step:∀j,j<l.length->(zAI (l.take j)).length<=(zAI (l.take (j+1))).length:=by
  intro j hj
  rw[zAs l j hj,List.length_append]
  omega
 have all:∀d j,j+d=l.length->(zAI (l.take j)).length<=(zAI l).length:=by
  intro d
  induction d with
  | zero=>intro j hj;rw[List.take_of_length_le (by omega)];exact Nat.le_refl _
  | succ d ih=>intro j hj;exact Nat.le_trans (step j (by omega)) (ih (j+1) (by omega))
 intro hk
 exact all (l.length-k) k (by omega)
def zDK(k:Int)(n:Nat):List UInt8:=[zCI k]++[40]++(if zAK k=true then Lib.decDigits n++[44]else [])
theorem zFo(k:Int)(n:Nat)(b:List UInt8)(l:List ByteArray)(h5:5<=k)(hl:zAK k=true->l≠[]):zA5 k n b l=zDK k n++zAI l++[41]:=by
 unfold zA5 zDK
 rw[if_neg (by omega),if_neg (by omega),if_neg (by omega)]
 cases h:zAK k with
 | true=>rw[if_pos rfl,if_pos rfl,if_neg (hl h)];simp
 | false=>rw[if_neg (by decide),if_neg (by decide)];simp
theorem zFp(w:World):IsB w.heap.size w.heap.size (Lib.byteCells []) (w.alloc (.cells #[.pointer none,.slice none 0 0] 190)):=Lib.fresh_isBuilder _ _ _
theorem zCK(bs:List UInt8)(s:ByteArray):Lib.byteCells bs++Lib.strCells s=Lib.byteCells (bs++s.data.toList):=by simp[Lib.byteCells,Lib.strCells]
theorem zJl(k:Int)(h1:1<=k)(h4:k<=4)(n:Nat)(hn:n<18446744073709551616)(bv lv:Value)(b:List UInt8)(l:List ByteArray)(w:World)(hb:k=4->b.length<=1000000∧Rd w [] bv (zBR .u8 (zBo b)))(htab:Tab w) :
  Calls prog 114 #[.int .u8 ((zCI k).toNat:Nat),.int .i64 k,.int .u64 n,bv,lv] w (zBr (zA5 k n b l) w):=by
 have HDL:=zAA (zCP n hn)
 have HB:=zAA (zFp w)
 have HC:=zAA (show Below w.heap.size w (w.alloc (.cells #[.pointer none,.slice none 0 0] 190))from zBE ((Only.refl [] w).alloc _) (Nat.le_refl _))
 have HT:=zAA htab
 have HN:=zAA hn
 clear htab hn
 rcases(show k=1∨k=2∨k=3∨k=4 by omega)with rfl|rfl|rfl|rfl
 ·clear hb
  go_enter func114,ntmps114
  go_wp2_with (first
   | (go_at_call 135;refine(zBL w.heap.size w.heap.size _ _ _ HB.out (by rw[zA7];have:=HDL.out;simp;try omega) HC.out.size).mono ?_;rintro e w1 ⟨rfl,h1,hb1⟩;have HC:=zAA (HC.out.trans hb1);(first|(have HB:=zAA (zAk h1 (zA6 _ (zCI 1)))));clear h1 hb1)
   | (go_at_call 136;refine(Tryz.Builder_String_any w.heap.size w.heap.size _ _ HB.out HC.out.size).mono ?_;rintro e w4 ⟨rfl,hb1⟩;have HC:=zAA (HC.out.trans hb1);clear hb1))
  go_ret
  exact zBj rfl (zAb HC.out)
 ·clear hb
  go_enter func114,ntmps114
  go_wp2_with (first
   | (go_at_call 135;refine(zBL w.heap.size w.heap.size _ _ _ HB.out (by rw[zA7];have:=HDL.out;simp;try omega) HC.out.size).mono ?_;rintro e w1 ⟨rfl,h1,hb1⟩;have HC:=zAA (HC.out.trans hb1);(first|(have HB:=zAA (zAk h1 (zA6 _ (zCI 2)))));clear h1 hb1)
   | (go_at_call 138;refine(zEm n HN.out _ (HT.out.only (zAb HC.out) (by simp))).mono ?_;rintro e w2 ⟨rfl,ho⟩;have HB:=zAA (zC3 HB.out ho);have HC:=zAA (HC.out.trans (zBE ho HC.out.size));clear ho)
   | (go_at_call 137;refine(zBC w.heap.size w.heap.size _ _ _ HB.out (by rw[zA7];have:=HDL.out;simp[ByteArray.size];try omega) HC.out.size).mono ?_;rintro e w3 ⟨rfl,h1,hb1⟩;have HC:=zAA (HC.out.trans hb1);have HB:=zAA (zAk h1 (zDj _ _));clear h1 hb1)
   | (go_at_call 136;refine(Tryz.Builder_String_any w.heap.size w.heap.size _ _ HB.out HC.out.size).mono ?_;rintro e w4 ⟨rfl,hb1⟩;have HC:=zAA (HC.out.trans hb1);clear hb1))
  go_ret
  exact zBj rfl (zAb HC.out)
 ·clear hb
  go_enter func114,ntmps114
  go_wp2_with (first
   | (go_at_call 135;refine(zBL w.heap.size w.heap.size _ _ _ HB.out (by rw[zA7];have:=HDL.out;simp;try omega) HC.out.size).mono ?_;rintro e w1 ⟨rfl,h1,hb1⟩;have HC:=zAA (HC.out.trans hb1);(first|(have HB:=zAA (zAk h1 (zA6 _ (zCI 3)))));clear h1 hb1)
   | (go_at_call 138;refine(zEm n HN.out _ (HT.out.only (zAb HC.out) (by simp))).mono ?_;rintro e w2 ⟨rfl,ho⟩;have HB:=zAA (zC3 HB.out ho);have HC:=zAA (HC.out.trans (zBE ho HC.out.size));clear ho)
   | (go_at_call 137;refine(zBC w.heap.size w.heap.size _ _ _ HB.out (by rw[zA7];have:=HDL.out;simp[ByteArray.size];try omega) HC.out.size).mono ?_;rintro e w3 ⟨rfl,h1,hb1⟩;have HC:=zAA (HC.out.trans hb1);have HB:=zAA (zAk h1 (zDj _ _));clear h1 hb1)
   | (go_at_call 136;refine(Tryz.Builder_String_any w.heap.size w.heap.size _ _ HB.out HC.out.size).mono ?_;rintro e w4 ⟨rfl,hb1⟩;have HC:=zAA (HC.out.trans hb1);clear hb1))
  go_ret
  exact zBj rfl (zAb HC.out)
 ·obtain⟨hbl,hb⟩:=hb rfl
  have HXL:=zAA (show(zCs b).length<=2000000 by rw[zBP];omega)
  have HV:=zAA hb
  have HBL:=zAA hbl
  clear hb hbl
  go_enter func114,ntmps114
  go_wp2_with (first
   | (go_at_call 135;refine(zBL w.heap.size w.heap.size _ _ _ HB.out (by rw[zA7];have:=HDL.out;simp;try omega) HC.out.size).mono ?_;rintro e w1 ⟨rfl,h1,hb1⟩;have HC:=zAA (HC.out.trans hb1);(first|(have HB:=zAA (zAk h1 (zA6 _ (zCI 4)))));clear h1 hb1)
   | (go_at_call 139;refine(zLq _ [] _ b (HV.out.only (zAb HC.out) (by simp)) HBL.out).mono ?_;rintro e w2 ⟨rfl,ho⟩;have HB:=zAA (zC3 HB.out ho);have HC:=zAA (HC.out.trans (zBE ho HC.out.size));clear ho)
   | (go_at_call 137;refine(zBC w.heap.size w.heap.size _ _ _ HB.out (by rw[zA7];have:=HXL.out;simp[ByteArray.size];try omega) HC.out.size).mono ?_;rintro e w3 ⟨rfl,h1,hb1⟩;have HC:=zAA (HC.out.trans hb1);have HB:=zAA (zAk h1 (zDj _ _));clear h1 hb1)
   | (go_at_call 136;refine(Tryz.Builder_String_any w.heap.size w.heap.size _ _ HB.out HC.out.size).mono ?_;rintro e w4 ⟨rfl,hb1⟩;have HC:=zAA (HC.out.trans hb1);clear hb1))
  go_ret
  exact zBj rfl (zAb HC.out)

theorem zK4(k:Int)(h5:5<=k)(h11:k<=11)(h6:k≠6)(n:Nat)(hn:n<18446744073709551616)(bv lv:Value)(b:List UInt8)(l:List ByteArray)(hl:zAK k=true->l≠[])(hll:(zAI l).length<=1000000)(w:World)(hv:Rd w [] lv (zAq l))(htab:Tab w) :
  Calls prog 114 #[.int .u8 ((zCI k).toNat:Nat),.int .i64 k,.int .u64 n,bv,lv] w (zBr (zA5 k n b l) w):=by
 have HDL:=zAA (zCP n hn)
 have HTX:=zAA (zFo k n b l h5 hl)
 have HHL:=zAA (show(zDK k n).length<=30 by unfold zDK;have:=zCP n hn;simp only[List.length_append,List.length_singleton];split<;>simp<;>omega)
 obtain⟨A,cap,rfl,hc1,hc2⟩:=hv.form
 unfold maxLen at hc2
 rw[zBN]at hv hc1 ⊢
 obtain⟨m,hm⟩:∃m,m=l.length:=⟨_,rfl⟩
 have HM:=zAA hm
 rw[<-hm]at hv hc1 ⊢
 have HB:=zAA (zFp w)
 have HC:=zAA (show Below w.heap.size w (w.alloc (.cells #[.pointer none,.slice none 0 0] 190))from zBE ((Only.refl [] w).alloc _) (Nat.le_refl _))
 have HT:=zAA htab
 have HN:=zAA hn
 have HV:=zAA hv
 have HLL:=zAA hll
 have t1:(k==1)=false:=by rw[beq_eq_false_iff_ne];omega
 have t2:(k==2)=false:=by rw[beq_eq_false_iff_ne];omega
 have t3:(k==3)=false:=by rw[beq_eq_false_iff_ne];omega
 have t4:(k==4)=false:=by rw[beq_eq_false_iff_ne];omega
 have t6:(k==6)=false:=by rw[beq_eq_false_iff_ne];omega
 clear htab hn hv hl hll hm h5 h11 h6
 cases hnb:zAK k with
 | false =>
  have HNB:=zAA hnb
  have HHD:=zAA (show zDK k n=[zCI k]++[40]by unfold zDK;rw[hnb];simp)
  clear hnb
  go_enter func114,ntmps114
  go_wp2_with (first
   | (go_at_call 135;refine(zBL w.heap.size w.heap.size _ _ _ HB.out (by rw[zA7];have:=HDL.out;simp;try omega) HC.out.size).mono ?_;rintro e w1 ⟨rfl,h1,hb1⟩;have HC:=zAA (HC.out.trans hb1);(first|(have HB:=zAA (zAk h1 (zA6 _ (zCI k))))|(have HB:=zAA (zAk h1 (zA6 _ 40))));clear h1 hb1)
   | (go_at_call 110;refine(zAf _ _).mono ?_;rintro e w' ⟨rfl,rfl⟩;rw[HNB.out]))
  go_quiet (fail)
  go_wp2_with fail
  have HB:=zAA (zAk (zC3 HB.out ((Only.refl [] _).drewN nq)) (show _=Lib.byteCells (zDK k n++zAI (l.take 0))by rw[HHD.out];simp[zAI]))
  have HC:=zAA (zCc HC.out nq)
  go_loopw [60] (fun i wr=>∃j:Nat,j<=m∧i=.int .i64 j∧Hid (IsB w.heap.size w.heap.size (Lib.byteCells (zDK k n++zAI (l.take j))) wr)∧Hid (Below w.heap.size w wr)) (fun i _=>m-(intOf i).toNat)
  case atStart=>exact⟨0,Nat.zero_le _,rfl,HB,HC⟩
  case round =>
   clear HB HC
   obtain⟨j,hj,rfl,HB,HC⟩:=hrel
   by_cases hlt:j<m
   ·have hltI:(j:Int)<m:=by omega
    have hjl:j<l.length:=by rw[<-HM.out];exact hlt
    have HJ:=zAA (zAs l j hjl)
    have HL1:=zAA (show(zAI (l.take j)).length<=1000000 from Nat.le_trans (zDk l j (Nat.le_of_lt hjl)) HLL.out)
    obtain⟨g,o,rfl,_,hg,hcell⟩:=(HV.out.only (zAb HC.out) (by simp)).at_.2.2.2 j (.string (l.getD j ByteArray.empty)) (by simp[zAq,List.getElem?_eq_getElem hjl])
    have HL2:=zAA (show(l.getD j ByteArray.empty).size<=1000000 from Nat.le_trans (zFj l _ (by rw[List.getD_eq_getElem?_getD,List.getElem?_eq_getElem hjl];exact List.getElem_mem hjl)) HLL.out)
    generalize l.getD j ByteArray.empty=part at *
    by_cases h0:j=0
    ·have hzero:¬(0:Int)<j:=by omega
     have HK0:=zAA h0
     clear h0 hjl
     go_wp2_with (first
      | (go_at_call 137;refine(zBC w.heap.size w.heap.size _ _ _ HB.out (by rw[zA7];have:=HL1.out;have:=HL2.out;have:=HHL.out;simp only[List.length_append];omega) HC.out.size).mono ?_;rintro e w3 ⟨rfl,h1,hb1⟩;have HC:=zAA (HC.out.trans hb1);have HB:=zAA (zAk h1 (zCK _ _));clear h1 hb1))
     go_roundw
     case rel=>exact⟨j+1,by omega,by go_num,zAA (zAk HB.out (by rw[HJ.out,if_pos HK0.out];simp)),HC⟩
     case measure=>simp[intOf];omega
    ·have hpos:(0:Int)<j:=by omega
     have HK0:=zAA h0
     clear h0 hjl
     go_wp2_with (first
      | (go_at_call 135;refine(zBL w.heap.size w.heap.size _ _ _ HB.out (by rw[zA7];have:=HL1.out;have:=HL2.out;have:=HHL.out;simp only[List.length_append];omega) HC.out.size).mono ?_;rintro e w1 ⟨rfl,h1,hb1⟩;have HC:=zAA (HC.out.trans hb1);(first|(have HB:=zAA (zAk h1 (zA6 _ 44))));clear h1 hb1)
      | (go_at_call 137;refine(zBC w.heap.size w.heap.size _ _ _ HB.out (by rw[zA7];have:=HL1.out;have:=HL2.out;have:=HHL.out;simp only[List.length_append,List.length_cons,List.length_nil];omega) HC.out.size).mono ?_;rintro e w3 ⟨rfl,h1,hb1⟩;have HC:=zAA (HC.out.trans hb1);have HB:=zAA (zAk h1 (zCK _ _));clear h1 hb1))
     go_roundw
     case rel=>exact⟨j+1,by omega,by go_num,zAA (zAk HB.out (by rw[HJ.out,if_neg HK0.out];simp)),HC⟩
     case measure=>simp[intOf];omega
   ·have hge:¬(j:Int)<m:=by omega
    have HB:=zAA (zAk HB.out (show _=Lib.byteCells (zDK k n++zAI l)by rw[List.take_of_length_le (by have:=HM.out;omega)]))
    have HL1:=HLL
    go_wp2_with (first
     | (go_at_call 135;refine(zBL w.heap.size w.heap.size _ _ _ HB.out (by rw[zA7];have:=HL1.out;have:=HHL.out;simp only[List.length_append];omega) HC.out.size).mono ?_;rintro e w1 ⟨rfl,h1,hb1⟩;have HC:=zAA (HC.out.trans hb1);(first|(have HB:=zAA (zAk h1 (zA6 _ 41))));clear h1 hb1)
     | (go_at_call 136;refine(Tryz.Builder_String_any w.heap.size w.heap.size _ _ HB.out HC.out.size).mono ?_;rintro e w4 ⟨rfl,hb1⟩;have HC:=zAA (HC.out.trans hb1);clear hb1))
    go_ret
    exact zBj (by rw[HTX.out];simp) (zAb HC.out)
 | true =>
  have HNB:=zAA hnb
  have HHD:=zAA (show zDK k n=[zCI k]++[40]++(Lib.decDigits n++[44])by unfold zDK;rw[hnb];simp)
  clear hnb
  go_enter func114,ntmps114
  go_wp2_with (first
   | (go_at_call 135;refine(zBL w.heap.size w.heap.size _ _ _ HB.out (by rw[zA7];have:=HDL.out;simp;try omega) HC.out.size).mono ?_;rintro e w1 ⟨rfl,h1,hb1⟩;have HC:=zAA (HC.out.trans hb1);(first|(have HB:=zAA (zAk h1 (zA6 _ (zCI k))))|(have HB:=zAA (zAk h1 (zA6 _ 40)))|(have HB:=zAA (zAk h1 (zA6 _ 44))));clear h1 hb1)
   | (go_at_call 110;refine(zAf _ _).mono ?_;rintro e w' ⟨rfl,rfl⟩;rw[HNB.out])
   | (go_at_call 138;refine(zEm n HN.out _ (HT.out.only (zAb HC.out) (by simp))).mono ?_;rintro e w2 ⟨rfl,ho⟩;have HB:=zAA (zC3 HB.out ho);have HC:=zAA (HC.out.trans (zBE ho HC.out.size));clear ho)
   | (go_at_call 137;refine(zBC w.heap.size w.heap.size _ _ _ HB.out (by rw[zA7];have:=HDL.out;simp[ByteArray.size];try omega) HC.out.size).mono ?_;rintro e w3 ⟨rfl,h1,hb1⟩;have HC:=zAA (HC.out.trans hb1);have HB:=zAA (zAk h1 (zDj _ _));clear h1 hb1))
  go_quiet (fail)
  go_wp2_with fail
  have HB:=zAA (zAk (zC3 HB.out ((Only.refl [] _).drewN nq)) (show _=Lib.byteCells (zDK k n++zAI (l.take 0))by rw[HHD.out];simp[zAI]))
  have HC:=zAA (zCc HC.out nq)
  go_loopw [60] (fun i wr=>∃j:Nat,j<=m∧i=.int .i64 j∧Hid (IsB w.heap.size w.heap.size (Lib.byteCells (zDK k n++zAI (l.take j))) wr)∧Hid (Below w.heap.size w wr)) (fun i _=>m-(intOf i).toNat)
  case atStart=>exact⟨0,Nat.zero_le _,rfl,HB,HC⟩
  case round =>
   clear HB HC
   obtain⟨j,hj,rfl,HB,HC⟩:=hrel
   by_cases hlt:j<m
   ·have hltI:(j:Int)<m:=by omega
    have hjl:j<l.length:=by rw[<-HM.out];exact hlt
    have HJ:=zAA (zAs l j hjl)
    have HL1:=zAA (show(zAI (l.take j)).length<=1000000 from Nat.le_trans (zDk l j (Nat.le_of_lt hjl)) HLL.out)
    obtain⟨g,o,rfl,_,hg,hcell⟩:=(HV.out.only (zAb HC.out) (by simp)).at_.2.2.2 j (.string (l.getD j ByteArray.empty)) (by simp[zAq,List.getElem?_eq_getElem hjl])
    have HL2:=zAA (show(l.getD j ByteArray.empty).size<=1000000 from Nat.le_trans (zFj l _ (by rw[List.getD_eq_getElem?_getD,List.getElem?_eq_getElem hjl];exact List.getElem_mem hjl)) HLL.out)
    generalize l.getD j ByteArray.empty=part at *
    by_cases h0:j=0
    ·have hzero:¬(0:Int)<j:=by omega
     have HK0:=zAA h0
     clear h0 hjl
     go_wp2_with (first
      | (go_at_call 137;refine(zBC w.heap.size w.heap.size _ _ _ HB.out (by rw[zA7];have:=HL1.out;have:=HL2.out;have:=HHL.out;simp only[List.length_append];omega) HC.out.size).mono ?_;rintro e w3 ⟨rfl,h1,hb1⟩;have HC:=zAA (HC.out.trans hb1);have HB:=zAA (zAk h1 (zCK _ _));clear h1 hb1))
     go_roundw
     case rel=>exact⟨j+1,by omega,by go_num,zAA (zAk HB.out (by rw[HJ.out,if_pos HK0.out];simp)),HC⟩
     case measure=>simp[intOf];omega
    ·have hpos:(0:Int)<j:=by omega
     have HK0:=zAA h0
     clear h0 hjl
     go_wp2_with (first
      | (go_at_call 135;refine(zBL w.heap.size w.heap.size _ _ _ HB.out (by rw[zA7];have:=HL1.out;have:=HL2.out;have:=HHL.out;simp only[List.length_append];omega) HC.out.size).mono ?_;rintro e w1 ⟨rfl,h1,hb1⟩;have HC:=zAA (HC.out.trans hb1);(first|(have HB:=zAA (zAk h1 (zA6 _ 44))));clear h1 hb1)
      | (go_at_call 137;refine(zBC w.heap.size w.heap.size _ _ _ HB.out (by rw[zA7];have:=HL1.out;have:=HL2.out;have:=HHL.out;simp only[List.length_append,List.length_cons,List.length_nil];omega) HC.out.size).mono ?_;rintro e w3 ⟨rfl,h1,hb1⟩;have HC:=zAA (HC.out.trans hb1);have HB:=zAA (zAk h1 (zCK _ _));clear h1 hb1))
     go_roundw
     case rel=>exact⟨j+1,by omega,by go_num,zAA (zAk HB.out (by rw[HJ.out,if_neg HK0.out];simp)),HC⟩
     case measure=>simp[intOf];omega
   ·have hge:¬(j:Int)<m:=by omega
    have HB:=zAA (zAk HB.out (show _=Lib.byteCells (zDK k n++zAI l)by rw[List.take_of_length_le (by have:=HM.out;omega)]))
    have HL1:=HLL
    go_wp2_with (first
     | (go_at_call 135;refine(zBL w.heap.size w.heap.size _ _ _ HB.out (by rw[zA7];have:=HL1.out;have:=HHL.out;simp only[List.length_append];omega) HC.out.size).mono ?_;rintro e w1 ⟨rfl,h1,hb1⟩;have HC:=zAA (HC.out.trans hb1);(first|(have HB:=zAA (zAk h1 (zA6 _ 41))));clear h1 hb1)
     | (go_at_call 136;refine(Tryz.Builder_String_any w.heap.size w.heap.size _ _ HB.out HC.out.size).mono ?_;rintro e w4 ⟨rfl,hb1⟩;have HC:=zAA (HC.out.trans hb1);clear hb1))
    go_ret
    exact zBj (by rw[HTX.out];simp) (zAb HC.out)
end
section
open Go.Proofs.Tryz
open Go.RowKit Go.Deep Go.Maps Go.WideMaps

theorem zMA(k:Int):letD.atKey (.int .i64 k) (.lit (.int .u8 0))=.lit (.int .u8 ((zCI k).toNat:Nat)):=by
 by_cases h:1<=k∧k<=11
 ·obtain⟨h1,h2⟩:=h
  rcases(show k=1∨k=2∨k=3∨k=4∨k=5∨k=6∨k=7∨k=8∨k=9∨k=10∨k=11 by omega)with rfl|rfl|rfl|rfl|rfl|rfl|rfl|rfl|rfl|rfl|rfl
  all_goals rfl
 ·have e:letD=DataW.map (letL.map fun p=>(Lit.int .i64 p.1,DataW.lit (.int .u8 p.2))):=by rfl
  have h0:zCI k=0:=by
   unfold zCI
   repeat rw[if_neg (by omega)]
  rw[e,h0]
  refine Go.WideAt.atKey_none _ fun p hp=>?_
  obtain⟨q,hq,rfl⟩:=List.mem_map.1 hp
  intro e2
  injection e2 with _ e3
  apply h
  simp only[letL,List.mem_cons,List.not_mem_nil,or_false]at hq
  rcases hq with rfl|rfl|rfl|rfl|rfl|rfl|rfl|rfl|rfl|rfl|rfl
  all_goals (simp only at e3;omega)
theorem zGR(k:Int)(hk:(Lit.int .i64 k).wf=true)(w:World):Calls prog 111 #[.int .i64 k] w fun e w'=>e=.returned (.int .u8 ((zCI k).toNat:Nat))∧Only [] w w' :=
 (zIR k hk w).mono fun e w' ⟨c,he,hat,ho⟩=>by
  rw[zMA]at hat
  injection hat with h3
  injection h3 with _ h4
  rw[<-h4]at he
  exact⟨he,ho⟩
theorem zK5{k:Int}(h:¬(1<=k∧k<=11)):zCI k=0:=by
 unfold zCI
 repeat rw[if_neg (by omega)]
theorem zMB{k:Int}(h:1<=k∧k<=11):(((zCI k).toNat:Nat):Int)≠0:=by
 obtain⟨h1,h2⟩:=h
 rcases(show k=1∨k=2∨k=3∨k=4∨k=5∨k=6∨k=7∨k=8∨k=9∨k=10∨k=11 by omega)with rfl|rfl|rfl|rfl|rfl|rfl|rfl|rfl|rfl|rfl|rfl
 all_goals decide
theorem zEn(p:ByteArray):zAg p=0↔(zAE p).isSome=false:=by
 unfold zAg
 cases h:zAE p with
 | none=>simp
 | some nd =>
  obtain⟨k,n,b,l⟩:=nd
  have:=(zCa h).2.1
  simp
  omega
def zCr:List ByteArray->Nat
 | []=>0
 | a::r=>a.size+1+zCr r
theorem zJm(l:List ByteArray)(x:ByteArray):zCr (l++[x])=zCr l+(x.size+1):=by
 induction l with
 | nil=>simp[zCr]
 | cons a r ih=>rw[List.cons_append,zCr,zCr,ih];omega
theorem zGS(l:List ByteArray)(k:Nat)(hk:k<l.length):zCr (l.take (k+1))=zCr (l.take k)+((l.getD k ByteArray.empty).size+1):=by
 have h:l.take (k+1)=l.take k++[l.getD k ByteArray.empty]:=by
  rw[List.take_succ_eq_append_getElem hk]
  simp[List.getElem?_eq_getElem hk]
 rw[h,zJm]
theorem zGT(l:List ByteArray)(k:Nat):zCr (l.take k)<=zCr l:=by
 induction l generalizing k with
 | nil=>simp
 | cons a r ih =>
  cases k with
  | zero=>simp[zCr]
  | succ k=>rw[List.take_succ_cons,zCr,zCr];have:=ih k;omega
theorem zFq:∀l:List ByteArray,l≠[]->(zAI l).length+1=zCr l
 | [],h=>absurd rfl h
 | [a],_=>by rw[zAI,zCr,zCr];rfl
 | a::b::r,_=>by
  have h:=zFq (b::r) (by simp)
  rw[zAI,zCr,List.length_append,List.length_cons,<-h]
  show a.size+_+1=_
  omega
theorem zJn(l:List ByteArray):(zAI l).length<=zCr l:=by
 by_cases h:l=[]
 ·subst h;simp[zAI]
 ·have:=zFq l h;omega
theorem zMn(l:List ByteArray):zCr l<=(zAI l).length+1:=by
 by_cases h:l=[]
 ·subst h;simp[zCr]
 ·have:=zFq l h;omega
theorem zMC(l:List ByteArray)(j:Nat)(hj:j<l.length):(l.getD j ByteArray.empty).size<=zCr l:=by
 have h:=zGS l j hj
 have h2:=zGT l (j+1)
 omega
theorem zK6(k:Int)(l:List ByteArray):zCr (zAZ k l)=zCr l:=by
 unfold zAZ
 split
 ·rename_i h
  obtain⟨_,h2,_⟩:=h
  match l,h2 with
  | [a,b],_=>simp[zCr];omega
 ·rfl
section no
variable {k:Int} {n:Nat} {b:List UInt8} {l:List ByteArray}
theorem zCR(h:¬(1<=k∧k<=11∧(zAK k=true->zAW k n=true)∧zBF k l.length=true∧(∀p∈l,(zAE p).isSome=true)∧(zA5 k n b (zAZ k l)).length<=65536)):zAS k n b l=ByteArray.empty:=by
 unfold zAS;rw[if_neg h]
theorem zGU(h:¬(1<=k∧k<=11)):zAS k n b l=ByteArray.empty:=zCR (by rintro⟨h1,h2,_⟩;exact h ⟨h1,h2⟩)
theorem zIS(h1:zAK k=true)(h2:zAW k n=false):zAS k n b l=ByteArray.empty:=zCR (by rintro⟨_,_,h,_⟩;rw[h h1]at h2;cases h2)
theorem zJo(h1:zBF k l.length=false):zAS k n b l=ByteArray.empty:=zCR (by rintro⟨_,_,_,h,_⟩;rw[h]at h1;cases h1)
theorem zK7(h:65536<zCr l):zAS k n b l=ByteArray.empty:=zCR (by
 rintro⟨h1,h11,_,hf,_,ht⟩
 by_cases hk:k<=4
 ·have hl:=(zJV h1 hk l).1 hf
  subst hl
  simp[zCr]at h
 ·have h1:=zHg k n b (zAZ k l) (by omega)
  have h2:=zMn (zAZ k l)
  rw[zK6]at h2
  omega)
theorem zJp(hk:k=4)(h:65536<b.length):zAS k n b l=ByteArray.empty:=zCR (by
 rintro⟨_,_,_,_,_,ht⟩
 subst hk
 unfold zA5 at ht
 rw[if_neg (by omega),if_pos rfl,List.length_cons,zBP]at ht
 omega)
theorem zGV{j:Nat}(hj:j<l.length)(h:zAg (l.getD j ByteArray.empty)=0):zAS k n b l=ByteArray.empty:=zCR (by
 rintro⟨_,_,_,_,hp,_⟩
 have:=hp (l.getD j ByteArray.empty) (by rw[List.getD_eq_getElem?_getD,List.getElem?_eq_getElem hj];exact List.getElem_mem hj)
 rw[(zEn _).1 h]at this
 exact Bool.noConfusion this)
theorem zJq(h:65536<(zA5 k n b (zAZ k l)).length):zAS k n b l=ByteArray.empty:=zCR (by rintro⟨_,_,_,_,_,ht⟩;omega)
theorem zG1(h1:1<=k∧k<=11)(h2:zAK k=true->zAW k n=true)(h3:zBF k l.length=true)(h4:∀j,j<l.length->zAg (l.getD j ByteArray.empty)≠0)(h5:(zA5 k n b (zAZ k l)).length<=65536) :
  zAS k n b l=zAD (zA5 k n b (zAZ k l)):=by
 unfold zAS
 refine if_pos ⟨h1.1,h1.2,h2,h3,fun p hp=>?_,h5⟩
 obtain⟨j,hj,rfl⟩:=List.mem_iff_getElem.1 hp
 have h:=h4 j hj
 rw[List.getD_eq_getElem?_getD,List.getElem?_eq_getElem hj,Option.getD_some]at h
 cases h':(zAE l[j]).isSome with
 | true=>rfl
 | false=>exact absurd ((zEn _).2 h') h
end no
end
section
open Go.Proofs.Tryz
set_option maxHeartbeats 2000000
set_option maxRecDepth 100000
open Go.RowKit Go.Deep

def Held(w w':World):Prop:=∀(g:Nat) (t:TypeId) (cs:Array Value),t≠5->t≠190->Blk w g t cs->Blk w' g t cs
theorem zEo(w:World):Held w w:=fun _ _ _ _ _ h=>h
theorem Held.trans{a b c:World}(h:Held a b)(k:Held b c):Held a c:=fun g t cs h1 h2 hb=>k g t cs h1 h2 (h g t cs h1 h2 hb)
theorem zIT(w:World)(o:Obj):Held w (w.alloc o):=fun _ _ _ _ _ h=>h.alloc o
theorem zFr{w:World}{b:Nat}{cs:Array Value}(h:w.heap[b]?=some (.cells cs 190 (0,0)))(i:Nat)(u:Value):Held w (w.setCell ⟨b,i,none⟩ u):=by
 intro g t cs' _ h2 hb
 refine hb.far (p:=⟨b,i,none⟩) ?_ u
 intro e
 simp only at e
 subst e
 unfold Blk at hb
 rw[h]at hb
 simp at hb
 exact h2 hb.2.symm
theorem zFC{w w':World}{B n:Nat}{v:Value}{xs:List Value}(ho:w.ownsRow B 5 1 v n xs)(hg:w.grownBy w' v.ownBlock):Held w w':=by
 intro g t cs h1 _ hb
 refine hb.grown hg ?_
 intro e
 rcases ho.2 with ⟨hv,_⟩|⟨g',cap,cur,hv,_,hh,_⟩
 ·rw[hv]at e;cases e
 ·rw[hv]at e
  simp[Value.ownBlock]at e
  subst e
  unfold Blk at hb
  rw[hh]at hb
  simp at hb
  exact h1 hb.2.symm

theorem zGW(B b:Nat)(bs:List Value)(w:World)(h:Lib.IsBuilder 190 5 B b bs w) :
  Calls prog 163 #[.pointer (some ⟨b,0,none⟩)] w fun e w'=>e=.returned (.tuple #[])∧(Lib.BuilderAt 190 5 B b (.pointer (some ⟨b,0,none⟩)) bs w'∧Below B w w'∧Held w w'):=by
 rcases h with h|h
 ·refine(zDO b w h.cell0 h.shape h.frozen0).mono ?_
  rintro e w' ⟨rfl,rfl⟩
  obtain⟨_,v,hbk,_,_⟩:=id h
  exact⟨rfl,h.used _,(Below.refl B w).setCell (p:=⟨b,0,none⟩) h.1 _,zFr hbk 0 _⟩
 ·refine(zDi b w h.cell0).mono ?_
  rintro e w' ⟨rfl,rfl⟩
  exact⟨rfl,h,Below.refl B _,zEo _⟩


theorem zBu(B b:Nat)(bs:List Value)(c:Int)(w:World)(h:Lib.IsBuilder 190 5 B b bs w)(hlen:bs.length+1<=140737488355328)(hBw:B<=w.heap.size) :
  Calls prog 135 #[.pointer (some ⟨b,0,none⟩),.int .u8 c] w fun e w'=>e=.returned .nilIface∧(Lib.IsBuilder 190 5 B b (bs++[.int .u8 c]) w'∧Below B w w'∧Held w w'):=by
 obtain⟨i0,hi,hz0,hz1,hz2⟩:=info_parts (show(prog.info? 5).map (fun i=>(i.zero,i.size,i.bytes))=some (some (.int .u8 0),1,1)by kernel_rfl)
 go_enter func135,ntmps135
 go_wp2_with (go_at_call 163;refine(zGW B b bs _ h).mono ?_)
 rintro e w1 ⟨rfl,h1,hb1,hh1⟩
 obtain⟨hB,v,hbk,hown,hne⟩:=h1
 have c0:w1.cell? ⟨b,0,none⟩=some (.pointer (some ⟨b,0,none⟩)):=by rw[Lib.cell_of_heap hbk];rfl
 have c1:w1.cell? ⟨b,1,none⟩=some v:=by rw[Lib.cell_of_heap hbk];rfl
 go_wp2_with (at_builtin;refine wpList_append_own _ rfl _ _ 55 rfl B 5 i0 (.int .u8 0) 1 1 underlying55 hi hz0 hz1 hz2 rfl (by decide) _ _ _ rfl (hown.alloc _) ⟨w1.heap.size,0,none⟩ 1 1 [.int .u8 c] rfl rfl ?c1 ?c2 ?c3 ?c4 ?c5 ?_)
 case c1 =>
  intro j u hj
  match j,hj with
  | 0,hj=>simp at hj;subst hj;simp[Addr.add]
 case c2=>intro u hu;simp at hu;subst hu;rfl
 case c3=>unfold maxLen;omega
 case c4=>omega
 case c5=>have:=hb1.size;simp;omega
 intro v' w2 hown' hgrow _
 have hlt:b<w1.heap.size:=zIQ hbk
 have hb2:w2.heap[b]?=some (.cells #[.pointer (some ⟨b,0,none⟩),v] 190 (0,0)):=by
  rw[hgrow.block b (by simp;omega) (fun e=>hne e.symm),Lib.alloc_old w1 _ b hlt]
  exact hbk
 have d0:w2.cell? ⟨b,0,none⟩=some (.pointer (some ⟨b,0,none⟩)):=by rw[Lib.cell_of_heap hb2];rfl
 have d1:w2.cell? ⟨b,1,none⟩=some v:=by rw[Lib.cell_of_heap hb2];rfl
 have f1:w2.frozen? ⟨b,1,none⟩=false:=Lib.frozen_of_heap hb2 1
 obtain⟨g,cap,rfl⟩:∃g cap,v'=.slice (some ⟨g,0,none⟩) (bs.length+1) cap:=by
  rcases hown'.2 with ⟨_,h0⟩|⟨g,cap,cur,hv,_⟩
  ·omega
  ·exact⟨g,cap,hv⟩
 go_wp2
 go_ret
 refine⟨rfl,?_,?_,?_⟩
 ·exact .inr (Lib.BuilderAt.put (T:=190) (e:=5) hB hb2 (bs':=bs++[.int .u8 c]) (by simpa using hown') (by decide))
 ·exact((hb1.alloc (by have:=hb1.size;omega) _).grown hgrow (by have:=hb1.size;simp;omega) (fun k hk=>(hown.lt k hk).1)).setCell (p:=⟨b,1,none⟩) hB _
 ·exact hh1.trans ((zIT w1 _).trans ((zFC (hown.alloc _) hgrow).trans (zFr hb2 1 _)))

theorem zB5(B b:Nat)(bs:List Value)(s:ByteArray)(w:World)(h:Lib.IsBuilder 190 5 B b bs w)(hlen:bs.length+s.size<=140737488355328)(hBw:B<=w.heap.size) :
  Calls prog 137 #[.pointer (some ⟨b,0,none⟩),.string s] w fun e w'=>e=.returned (.tuple #[.int .i64 s.size,.nilIface])∧(Lib.IsBuilder 190 5 B b (bs++Lib.strCells s) w'∧Below B w w'∧Held w w'):=by
 obtain⟨i0,hi,hz0,hz1,hz2⟩:=info_parts (show(prog.info? 5).map (fun i=>(i.zero,i.size,i.bytes))=some (some (.int .u8 0),1,1)by kernel_rfl)
 go_enter func137,ntmps137
 go_wp2_with (go_at_call 163;refine(zGW B b bs _ h).mono ?_)
 rintro e w1 ⟨rfl,h1,hb1,hh1⟩
 obtain⟨hB,v,hbk,hown,hne⟩:=h1
 have c0:w1.cell? ⟨b,0,none⟩=some (.pointer (some ⟨b,0,none⟩)):=by rw[Lib.cell_of_heap hbk];rfl
 have c1:w1.cell? ⟨b,1,none⟩=some v:=by rw[Lib.cell_of_heap hbk];rfl
 go_wp2_with (at_builtin;refine Lib.wpList_append_own_string _ rfl _ _ 55 9 rfl B 5 i0 underlying55 underlying9 hi hz0 hz1 hz2 _ _ _ rfl hown s rfl ?c3 ?c4 ?c5 ?_)
 case c3=>unfold maxLen;omega
 case c4=>omega
 case c5=>have:=hb1.size;omega
 intro v' w2 hown' hgrow _
 have hlt:b<w1.heap.size:=zIQ hbk
 have hb2:w2.heap[b]?=some (.cells #[.pointer (some ⟨b,0,none⟩),v] 190 (0,0)):=by
  rw[hgrow.block b hlt (fun e=>hne e.symm)]
  exact hbk
 have d0:w2.cell? ⟨b,0,none⟩=some (.pointer (some ⟨b,0,none⟩)):=by rw[Lib.cell_of_heap hb2];rfl
 have d1:w2.cell? ⟨b,1,none⟩=some v:=by rw[Lib.cell_of_heap hb2];rfl
 have f1:w2.frozen? ⟨b,1,none⟩=false:=Lib.frozen_of_heap hb2 1
 obtain⟨ao,n',cap,rfl⟩:∃ao n' cap,v'=.slice ao n' cap:=by
  rcases hown'.2 with ⟨hv,_⟩|⟨g,cap,cur,hv,_⟩
  ·exact⟨_,_,_,hv⟩
  ·exact⟨_,_,_,hv⟩
 go_wp2
 go_ret2
 refine⟨rfl,?_,?_,?_⟩
 ·exact .inr (Lib.BuilderAt.put (T:=190) (e:=5) hB hb2 (bs':=bs++Lib.strCells s) (by simpa [Lib.strCells_length] using hown') (by decide))
 ·exact(hb1.grown hgrow (by have:=hb1.size;omega) (fun k hk=>(hown.lt k hk).1)).setCell (p:=⟨b,1,none⟩) hB _
 ·exact hh1.trans ((zFC hown hgrow).trans (zFr hb2 1 _))
end
end Go.Proofs.YtfipdjlalfpbnaaGreatDoor
