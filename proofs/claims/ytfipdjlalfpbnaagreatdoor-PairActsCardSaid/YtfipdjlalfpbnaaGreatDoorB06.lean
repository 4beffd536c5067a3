/-
  Walks and plain words (texts Ps, Pn, Hv, Pg0, Pg1, Omsg, Opa). No condition beyond those that each theorem states.
-/
import Derived.Test.YtfipdjlalfpbnaaGreatDoorA32
import Derived.Test.YtfipdjlalfpbnaaGreatDoorB03
import Derived.Test.YtfipdjlalfpbnaaGreatDoorB04
import Derived.Test.YtfipdjlalfpbnaaGreatDoorB05
namespace Go.Proofs.YtfipdjlalfpbnaaGreatDoor
section
open Go.RowKit Go.Deep

theorem zJ5(b:List UInt8)(h:b.length<=30000):Tn (2*b.length+1) (zAS 4 0 b []):=by
 have h1:zAS 4 0 b []=zAD (zA5 4 0 b (zAZ 4 [])):=zG1 (k:=4) (n:=0) (b:=b) (l:=[]) (by decide) (fun h=>by cases h) (by decide) (fun j hj=>by simp at hj) (by
  show(zCI 4::(if (4:Int)=2∨(4:Int)=3 then _ else if (4:Int)=4 then zCs b else _)).length<=65536
  rw[if_neg (by decide),if_pos rfl,List.length_cons,zBP]
  omega)
 have hne:zAS 4 0 b []≠ByteArray.empty:=by rw[h1];exact zHh (zLY _ _ _ _)
 refine⟨by rw[zC2 (by omega) hne];rfl,?_⟩
 rw[h1,zAF]
 show(zCI 4::(if (4:Int)=2∨(4:Int)=3 then _ else if (4:Int)=4 then zCs b else _)).length<=2*b.length+1
 rw[if_neg (by decide),if_pos rfl,List.length_cons,zBP]
 omega
theorem zLI(b:List UInt8)(h:b.length<=30000):zEx (zAS 4 0 b [])=(b,true):=by
 have h1:=zC2 (k:=4) (n:=0) (b:=b) (l:=[]) (by omega) (zJ5 b h).ne
 unfold zEx
 rw[h1]
 rfl
theorem zMK:Tn 1 ⟨#[48]⟩:=⟨by kernel_rfl,Nat.le_refl _⟩
theorem zHn{a n:Nat}{s:ByteArray}{b:List UInt8}(hs:Tn a s)(ha:a<=20000)(hb:b.length<=10000)(hn:n<18446744073709551616):Tn (a+(2*b.length+1)+1+27) (zEB n s b) :=
 zMJ n hn hs (zJ5 b (by omega)) zMK (by omega)
theorem zFF{a re n:Nat}{s:ByteArray}{b:List UInt8}(hs:Tn a s)(ha:a<=20000)(hb:b.length<=10000)(hn:n<18446744073709551616):zAG (zBy re n s b)=true:=by
 have h:=zHn hs ha hb hn
 have hf:zAz (zEB n s b)=true:=by
  unfold zAz
  rw[decide_eq_true (by have:=h.2;omega),h.1]
  rfl
 have h2:eqM (zBy re n s b) (zBy re n s b)=true:=(zEW _ _).2 rfl
 show(decide (1<=(4:Int)∧(4:Int)<=4)&&([zEB n s b].all zAz&&eqM (zBy re n s b) (zBy re n s b)))=true
 rw[h2]
 simp[hf]
theorem zIa{a n:Nat}{s:ByteArray}{b:List UInt8}(hs:Tn a s)(ha:a<=20000)(hb:b.length<=10000)(hn:n<18446744073709551616)(m:Nat)(k:ByteArray):zBD (zEB n s b) k m ⟨#[48]⟩=if k=s∧m=n then (zAS 4 0 b [],0)else (ByteArray.empty,8):=by
 have h:=(zHn (n:=n) hs ha hb hn).ne
 have hr:=zC2 (k:=10) (n:=n) (b:=[]) (l:=[s,zAS 4 0 b [],⟨#[48]⟩]) hn h
 rw[zBH (by omega)]at hr
 unfold zBD zEB
 rw[hr]
 simp only
 rw[if_neg (by decide)]
 by_cases hc:k=s∧m=n
 ·rw[if_pos hc,if_pos ⟨hc.1.symm,hc.2.symm,rfl⟩];rfl
 ·rw[if_neg hc,if_neg (fun c=>hc ⟨c.1.symm,c.2.1.symm⟩)]
end
section
open Go.Proofs.Tryz
set_option maxHeartbeats 12800000
set_option maxRecDepth 100000
open Go.RowKit Go.Deep

theorem pk1:zAg ⟨#[97,49]⟩≠0:=by rw[show zAg ⟨#[97,49]⟩=2 from by kernel_rfl];decide
theorem pk2:zAg ⟨#[97,50]⟩≠0:=by rw[show zAg ⟨#[97,50]⟩=2 from by kernel_rfl];decide
theorem zML:Tn 2 ⟨#[97,49]⟩:=⟨by kernel_rfl,Nat.le_refl _⟩
theorem sz2(a b:UInt8):(⟨#[a,b]⟩:ByteArray).size<=maxLen:=by unfold maxLen;show 2<=_;omega
theorem zJ6(w:World)(G:Nat)(hG:G=w.heap.size)(g c:Nat)(h:PairIs w g c ⟨#[97,49]⟩ ⟨#[97,50]⟩ 1 2 true 0 0)(htab:Tab w):Calls prog 29 #[.pointer (some ⟨g,0,none⟩),.int .i64 0,.slice (some ⟨G,0,none⟩) 1 1] (w.alloc (.cells #[.int .u8 7] 5)) fun e w'=>e=.returned (.tuple #[.agg #[.int .i64 4,.int .u32 0,.int .u32 2,.int .u64 0,.string ⟨#[]⟩,.string ⟨#[]⟩,.string ⟨#[]⟩,.string ⟨#[]⟩,.string ⟨#[]⟩,.string ⟨#[]⟩,.string (zEB 0 ⟨#[97,49]⟩ [7]),.string ⟨#[]⟩,.string ⟨#[]⟩],.int .i64 0])∧PairIs w' g c ⟨#[97,49]⟩ ⟨#[97,50]⟩ 1 2 true 0 1∧Only [g] w w':=by
 subst hG
 have ho:Only [] w (w.alloc (.cells #[.int .u8 7] 5)):=(Only.refl [] w).alloc _
 refine(zDq _ g c ⟨#[97,49]⟩ ⟨#[97,50]⟩ 1 2 true 0 0 (PairIs.only h ho (by simp)) 0 (by omega) (by omega) (some ⟨w.heap.size,0,none⟩) 1 [7] (sz2 _ _) (zDT w 5 [] (zBR .u8 (zBo [7])) (by simp) (by unfold maxLen;show 1<=_;omega)) (htab.only ho (by simp)) (by omega)).mono ?_
 intro e w' hp
 have hv:zAv 2 0 0 ⟨#[97,49]⟩ 0 [7]=(zBy 2 0 ⟨#[97,49]⟩ [7],0,1):=by
  unfold zAv
  rw[if_neg (by rw[show zAc 0=true from rfl];decide),if_neg (by unfold zBn;omega),if_neg (by show ¬2000<1;omega),if_pos (zFF zML (by omega) (by show 1<=10000;omega) (by omega))]
 unfold zBY at hp
 rw[hv]at hp
 exact⟨hp.1,hp.2.1,(ho.mono (by simp)).trans hp.2.2⟩
theorem zMo(w:World)(g c:Nat)(now:Int)(h:PairIs w g c ⟨#[97,50]⟩ ⟨#[97,49]⟩ 2 1 false 0 0)(hw:WinSet w c [])(hn:now=180000∨now=179999):Calls prog 31 #[.pointer (some ⟨g,0,none⟩),.int .i64 now,.agg #[.int .i64 4,.int .u32 0,.int .u32 2,.int .u64 0,.string ⟨#[]⟩,.string ⟨#[]⟩,.string ⟨#[]⟩,.string ⟨#[]⟩,.string ⟨#[]⟩,.string ⟨#[]⟩,.string (zEB 0 ⟨#[97,49]⟩ [7]),.string ⟨#[]⟩,.string ⟨#[]⟩]] w fun e w'=>(∃v,e=.returned (.tuple #[v,.int .i64 (if now=180000 then 10 else 0)])∧Rd w' [] v (zBR .u8 (zBo (if now=180000 then []else [7]))))∧PairIs w' g c ⟨#[97,50]⟩ ⟨#[97,49]⟩ 2 1 false 0 0∧WinSet w' c (if now=180000 then []else [0])∧Only [c] w w':=by
 refine(zCn w g c ⟨#[97,50]⟩ ⟨#[97,49]⟩ 2 1 false 0 0 [] h hw now (by omega) (by omega) (zBy 2 0 ⟨#[97,49]⟩ [7]) (zDp (by omega) (by omega))).mono ?_
 rintro e w' ⟨v,h1,h2,h3,h4,h5⟩
 have ht:zAc now=true:=by rw[zAT];omega
 have hr:zAG (zBy 2 0 ⟨#[97,49]⟩ [7])=true:=zFF zML (by omega) (by show 1<=10000;omega) (by omega)
 have hv:zAj 2 0 ⟨#[97,49]⟩ [] now (zBy 2 0 ⟨#[97,49]⟩ [7])=if now=180000 then ([],10,[])else ([7],0,[0]):=by
  unfold zAj
  rw[if_neg (fun h=>h ⟨rfl,hr⟩),if_neg (by show ¬(2≠2);simp),if_neg (by rw[ht];decide)]
  have hx:zBD (zBy 2 0 ⟨#[97,49]⟩ [7]).x10 ⟨#[97,49]⟩ (zBy 2 0 ⟨#[97,49]⟩ [7]).c ⟨#[48]⟩=(zAS 4 0 [7] [],0):=by
   show zBD (zEB 0 ⟨#[97,49]⟩ [7]) ⟨#[97,49]⟩ 0 ⟨#[48]⟩=_
   rw[zIa zML (by omega) (by show 1<=10000;omega) (by omega),if_pos ⟨rfl,rfl⟩]
  rcases hn with rfl|rfl
  ·rw[if_pos (.inl (by unfold zBn;omega)),if_pos rfl]
  ·rw[if_neg (by rintro(h|h);(unfold zBn at h;omega);(exact absurd (show 18446744073709543423<=0 from h) (by omega))),if_neg (fun h=>h rfl),hx,if_neg (fun h=>h rfl),zLI [7] (by show 1<=30000;omega),if_neg (by decide),if_neg (by omega)]
   rfl
 rw[hv]at h1 h2 h4
 rcases hn with rfl|rfl
 ·exact⟨⟨v,h1,h2⟩,h3,h4,h5⟩
 ·exact⟨⟨v,h1,h2⟩,h3,h4,h5⟩
theorem zDR(w:World)(htab:Tab w):Calls prog 25 #[] w (zAn true w):=by
 have HNP:=zAA (fun W=>zEE W ⟨#[97,49]⟩ ⟨#[97,50]⟩ 1 2 true 0 (sz2 _ _) (sz2 _ _) pk1 pk2 (by omega) (by omega))
 have HNQ:=zAA (fun W=>zEE W ⟨#[97,50]⟩ ⟨#[97,49]⟩ 2 1 false 0 (sz2 _ _) (sz2 _ _) pk2 pk1 (by omega) (by omega))
 unfold zFW at HNP HNQ
 have HS:=zAA (fun W G (hG:G=W.heap.size) g c h ht=>zJ6 W G hG g c h ht)
 have HOa:=zAA (fun W g c h hw=>zMo W g c 180000 h hw (.inl rfl))
 have HOb:=zAA (fun W g c h hw=>zMo W g c 179999 h hw (.inr rfl))
 simp only[show((180000:Int)=180000)=True from eq_self _,show((179999:Int)=180000)=False from eq_false (by decide),if_true,if_false]at HOa HOb
 have HT:=zAA htab
 clear htab
 generalize zEB 0 ⟨#[97,49]⟩ [7]=x10 at *
 go_enter func25,ntmps25
 go_upto_region 4 with (first
  | (go_at_call 26;(with_reducible refine(HNP.out _).mono ?_);rintro e w1 ⟨g,c,rfl,hg,hc,hgc,hp,_,ho⟩;have HP:=zAA hp;have HO:=zAA ho;have HGL:=zAA (show g<w1.heap.size from Blk.lt hp);have HGG:=zAA hg;replace HT:=zAA (HT.out.only ho (by simp));clear hg hc hgc hp ho)
  | (go_at_call 26;(with_reducible refine(HNQ.out _).mono ?_);rintro e w2 ⟨q,d,rfl,hq,hd,hqd,hp,hz,ho⟩;have HQ:=zAA hp;have HD:=zAA (zHT hz);have HQL:=zAA (show w1.heap.size<=q∧w1.heap.size<=d∧w.heap.size<=w1.heap.size∧w2.heap.size<=w2.heap.size from⟨hq,hd,HO.out.size,Nat.le_refl _⟩);have HQS:=zAA (show q<w2.heap.size∧d<w2.heap.size from⟨Blk.lt hp,hz.lt⟩);replace HP:=zAA (PairIs.only HP.out ho (by simp));replace HO:=zAA (HO.out.trans ho);replace HT:=zAA (HT.out.only ho (by simp));clear hq hd hqd hp hz ho)
  | (go_at_call 29;(with_reducible refine(HS.out _ _ rfl g c HP.out HT.out).mono ?_);rintro e w3 ⟨rfl,hp,ho⟩;replace HQ:=zAA (PairIs.only HQ.out ho (by have:=HGL.out;have:=HQL.out;simp;omega));replace HD:=zAA (HD.out.only ho (by have:=HGL.out;have:=HQL.out;simp;omega));replace HO:=zAA (((HO.out.mono (S':=[g]) (by simp)).trans ho).mono (S':=[]) (by intro x hx;right;simp at hx;have:=HGG.out;omega));have HSZ:=zAA ho.size;clear hp ho HP HT))
 have HMB:=zAA (Blk.new w3 25 #[.int .i64 4,.int .u32 0,.int .u32 2,.int .u64 0,.string ⟨#[]⟩,.string ⟨#[]⟩,.string ⟨#[]⟩,.string ⟨#[]⟩,.string ⟨#[]⟩,.string ⟨#[]⟩,.string x10,.string ⟨#[]⟩,.string ⟨#[]⟩])
 replace HO:=zAA (HO.out.alloc (.cells #[.int .i64 4,.int .u32 0,.int .u32 2,.int .u64 0,.string ⟨#[]⟩,.string ⟨#[]⟩,.string ⟨#[]⟩,.string ⟨#[]⟩,.string ⟨#[]⟩,.string ⟨#[]⟩,.string x10,.string ⟨#[]⟩,.string ⟨#[]⟩] 25))
 replace HQ:=zAA (PairIs.only HQ.out ((Only.refl [] _).alloc (.cells #[.int .i64 4,.int .u32 0,.int .u32 2,.int .u64 0,.string ⟨#[]⟩,.string ⟨#[]⟩,.string ⟨#[]⟩,.string ⟨#[]⟩,.string ⟨#[]⟩,.string ⟨#[]⟩,.string x10,.string ⟨#[]⟩,.string ⟨#[]⟩] 25)) (by simp))
 replace HD:=zAA (HD.out.only ((Only.refl [] _).alloc (.cells #[.int .i64 4,.int .u32 0,.int .u32 2,.int .u64 0,.string ⟨#[]⟩,.string ⟨#[]⟩,.string ⟨#[]⟩,.string ⟨#[]⟩,.string ⟨#[]⟩,.string ⟨#[]⟩,.string x10,.string ⟨#[]⟩,.string ⟨#[]⟩] 25)) (by simp))
 have HDM:=zAA (show w3.heap.size≠d by have:=HSZ.out;have:=HQS.out;omega)
 generalize (w3.alloc (.cells #[.int .i64 4,.int .u32 0,.int .u32 2,.int .u64 0,.string ⟨#[]⟩,.string ⟨#[]⟩,.string ⟨#[]⟩,.string ⟨#[]⟩,.string ⟨#[]⟩,.string ⟨#[]⟩,.string x10,.string ⟨#[]⟩,.string ⟨#[]⟩] 25))=w4 at *
 have m0:=HMB.out.cell 0;have m1:=HMB.out.cell 1;have m2:=HMB.out.cell 2;have m3:=HMB.out.cell 3;have m4:=HMB.out.cell 4;have m5:=HMB.out.cell 5;have m6:=HMB.out.cell 6;have m7:=HMB.out.cell 7;have m8:=HMB.out.cell 8;have m9:=HMB.out.cell 9;have m10:=HMB.out.cell 10;have m11:=HMB.out.cell 11;have m12:=HMB.out.cell 12;simp at m0 m1 m2 m3 m4 m5 m6 m7 m8 m9 m10 m11 m12
 go_wp2_with (first
  | (go_at_call 31;(with_reducible refine(HOa.out _ q d HQ.out HD.out).mono ?_);rintro e w5 ⟨⟨v,rfl,hr⟩,hq,hd,ho⟩;obtain⟨B5,c5,hv,_,_⟩:=hr.form;replace hv:v=.slice B5 0 c5:=hv;subst hv;replace HQ:=zAA hq;replace HD:=zAA hd;replace HMB:=zAA (HMB.out.only ho (by have:=HDM.out;simp;omega));replace HO:=zAA (((HO.out.mono (S':=[d]) (by simp)).trans ho).mono (S':=[]) (by intro x hx;right;simp at hx;have:=HQL.out;omega));clear hr hq hd ho;clear m0 m1 m2 m3 m4 m5 m6 m7 m8 m9 m10 m11 m12;have m0:=HMB.out.cell 0;have m1:=HMB.out.cell 1;have m2:=HMB.out.cell 2;have m3:=HMB.out.cell 3;have m4:=HMB.out.cell 4;have m5:=HMB.out.cell 5;have m6:=HMB.out.cell 6;have m7:=HMB.out.cell 7;have m8:=HMB.out.cell 8;have m9:=HMB.out.cell 9;have m10:=HMB.out.cell 10;have m11:=HMB.out.cell 11;have m12:=HMB.out.cell 12;simp at m0 m1 m2 m3 m4 m5 m6 m7 m8 m9 m10 m11 m12)
  | (go_at_call 31;(with_reducible refine(HOb.out _ q d HQ.out HD.out).mono ?_);rintro e w6 ⟨⟨v,rfl,hr⟩,hq,hd,ho⟩;obtain⟨B6,c6,hv,_,_⟩:=hr.form;replace hv:v=.slice B6 1 c6:=hv;subst hv;obtain⟨gg,oo,rfl,_,_,hcell⟩:=hr.at_.2.2.2 0 (.int .u8 7) rfl;replace HO:=zAA (((HO.out.mono (S':=[d]) (by simp)).trans ho).mono (S':=[]) (by intro x hx;right;simp at hx;have:=HQL.out;omega));rw[Nat.add_zero]at hcell;clear hr hq hd ho))
 go_ret
 exact zBz rfl HO.out
end
section
open Go.Proofs.Tryz
set_option maxHeartbeats 12800000
set_option maxRecDepth 100000
open Go.RowKit Go.Deep

def zCL(m:Mg)(q:Int):Bool:=decide (q<wrap64 (wrap64 (wrap64 (wrap64 (wrap64 (wrap64 (wrap64 (wrap64 ((m.x4.size:Int)+(m.x5.size:Int))+(m.x6.size:Int))+(m.x7.size:Int))+(m.x8.size:Int))+(m.x9.size:Int))+(m.x10.size:Int))+(m.x11.size:Int))+(m.x12.size:Int)))
theorem zBK(m:Mg)(q:Int)(w:World):Calls prog 28 #[.agg m.cells,.int .i64 q] w (zAn (zCL m q) w):=by
 obtain⟨k,s,r,c,x4,x5,x6,x7,x8,x9,x10,x11,x12⟩:=m
 unfold Mg.cells zCL zAn
 simp only
 ·have HMB:=zAA (Blk.new w 25 #[.int .i64 k,.int .u32 (s:Nat),.int .u32 (r:Nat),.int .u64 (c:Nat),.string x4,.string x5,.string x6,.string x7,.string x8,.string x9,.string x10,.string x11,.string x12])
  have HO:=zAA ((Only.refl [] w).alloc (.cells #[.int .i64 k,.int .u32 (s:Nat),.int .u32 (r:Nat),.int .u64 (c:Nat),.string x4,.string x5,.string x6,.string x7,.string x8,.string x9,.string x10,.string x11,.string x12] 25))
  have m0:=HMB.out.cell 0;have m1:=HMB.out.cell 1;have m2:=HMB.out.cell 2;have m3:=HMB.out.cell 3;have m4:=HMB.out.cell 4;have m5:=HMB.out.cell 5;have m6:=HMB.out.cell 6;have m7:=HMB.out.cell 7;have m8:=HMB.out.cell 8;have m9:=HMB.out.cell 9;have m10:=HMB.out.cell 10;have m11:=HMB.out.cell 11;have m12:=HMB.out.cell 12;simp at m0 m1 m2 m3 m4 m5 m6 m7 m8 m9 m10 m11 m12
  go_enter func28,ntmps28
  go_wp2_with fail
  go_ret
  exact⟨rfl,HO.out⟩
end
section
open Go.Proofs.Tryz
open Go.RowKit Go.Deep

theorem zGb(w:World)(s:ByteArray)(hs:s.size<=maxLen):Calls prog 18 #[.string s] w (zAn (decide (zAg s≠0)) w):=by
 have h:=zAd w s hs
 have e:(zAE s).isSome=decide (zAg s≠0):=by
  unfold zAg
  cases h:zAE s with
  | none=>rfl
  | some nd =>
   have h3:=zEH (k:=nd.1) (n:=nd.2.1) (b:=nd.2.2.1) (l:=nd.2.2.2) h
   simp only[Option.isSome_some]
   rw[decide_eq_true]
   show nd.1≠0
   omega
 rw[<-e]
 exact h
theorem zEK(w:World)(s1 s2:ByteArray)(lo re:Int)(beg:Bool)(made:Int)(h1:s1.size<=maxLen)(h2:s2.size<=maxLen)(hk:zAg s1=0∨zAg s2=0):Calls prog 26 #[.agg #[.string s1,.string s2],.int .u32 lo,.int .u32 re,.bool beg,.int .i64 made] w fun e w'=>e=.returned (.tuple #[.pointer none,.int .i64 3])∧Only [] w w':=by
 by_cases h:zAg s1=0
 ·exact zL8 w s1 s2 lo re beg made h1 h2 h
 ·exact zL9 w s1 s2 lo re beg made h1 h2 h (hk.resolve_left h)
end
section
open Go.Proofs.Tryz
set_option maxHeartbeats 12800000
set_option maxRecDepth 100000
open Go.RowKit Go.Deep

theorem zMM(w:World)(s1 s2:ByteArray)(lo re:Nat)(beg:Bool)(made:Int)(A:Option Addr)(ln cap:Nat)(h1:s1.size<=maxLen)(h2:s2.size<=maxLen)(htab:Tab w)(hb:200<s1.size):Calls prog 5 #[.agg #[.string s1,.string s2],.int .u32 (lo:Nat),.int .u32 (re:Nat),.bool beg,.int .i64 made,.slice A ln cap] w (zAn true w):=by
 have HAW:=zAA (fun W ht=>zDR W ht)
 unfold zAn at HAW
 have HT:=zAA htab
 have HB:=zAA (Blk.new w 43 #[.string s1,.string s2])
 have HO:=zAA ((Only.refl [] w).alloc (.cells #[.string s1,.string s2] 43))
 replace HT:=zAA (HT.out.only HO.out (by simp))
 have q1:(200:Int)<s1.size:=by omega
 clear hb
 clear h1 h2 htab
 go_enter func5,ntmps5
 go_upto_region 1 with fail
 generalize (w.alloc (.cells #[.string s1,.string s2] 43))=v0 at *
 have k0:=HB.out.cell 0;have k1:=HB.out.cell 1;simp at k0 k1
 go_wp2_with (go_at_call 25;(refine(HAW.out _ HT.out).mono ?_);rintro e2 w1 ⟨rfl,ho⟩;replace HB:=zAA (HB.out.only ho (by simp));replace HT:=zAA (HT.out.only ho (by simp));replace HO:=zAA (HO.out.trans ho);clear ho k0 k1;have k0:=HB.out.cell 0;have k1:=HB.out.cell 1;simp at k0 k1)
 go_ret
 exact zBz rfl HO.out
theorem zMN(w:World)(s1 s2:ByteArray)(lo re:Nat)(beg:Bool)(made:Int)(A:Option Addr)(ln cap:Nat)(h1:s1.size<=maxLen)(h2:s2.size<=maxLen)(htab:Tab w)(hb0:¬200<s1.size)(hb:200<s2.size):Calls prog 5 #[.agg #[.string s1,.string s2],.int .u32 (lo:Nat),.int .u32 (re:Nat),.bool beg,.int .i64 made,.slice A ln cap] w (zAn true w):=by
 have HAW:=zAA (fun W ht=>zDR W ht)
 unfold zAn at HAW
 have HT:=zAA htab
 have HB:=zAA (Blk.new w 43 #[.string s1,.string s2])
 have HO:=zAA ((Only.refl [] w).alloc (.cells #[.string s1,.string s2] 43))
 replace HT:=zAA (HT.out.only HO.out (by simp))
 have q1:¬(200:Int)<s1.size:=by omega
 have q2:(200:Int)<s2.size:=by omega
 clear hb hb0
 clear h1 h2 htab
 go_enter func5,ntmps5
 go_upto_region 1 with fail
 generalize (w.alloc (.cells #[.string s1,.string s2] 43))=v0 at *
 have k0:=HB.out.cell 0;have k1:=HB.out.cell 1;simp at k0 k1
 go_wp2_with (go_at_call 25;(refine(HAW.out _ HT.out).mono ?_);rintro e2 w1 ⟨rfl,ho⟩;replace HB:=zAA (HB.out.only ho (by simp));replace HT:=zAA (HT.out.only ho (by simp));replace HO:=zAA (HO.out.trans ho);clear ho k0 k1;have k0:=HB.out.cell 0;have k1:=HB.out.cell 1;simp at k0 k1)
 go_ret
 exact zBz rfl HO.out
theorem zMO(w:World)(s1 s2:ByteArray)(lo re:Nat)(beg:Bool)(made:Int)(A:Option Addr)(ln cap:Nat)(h1:s1.size<=maxLen)(h2:s2.size<=maxLen)(htab:Tab w)(hb0:¬200<s1.size)(hb1:¬200<s2.size)(hb:40<ln):Calls prog 5 #[.agg #[.string s1,.string s2],.int .u32 (lo:Nat),.int .u32 (re:Nat),.bool beg,.int .i64 made,.slice A ln cap] w (zAn true w):=by
 have HAW:=zAA (fun W ht=>zDR W ht)
 unfold zAn at HAW
 have HT:=zAA htab
 have HB:=zAA (Blk.new w 43 #[.string s1,.string s2])
 have HO:=zAA ((Only.refl [] w).alloc (.cells #[.string s1,.string s2] 43))
 replace HT:=zAA (HT.out.only HO.out (by simp))
 have q1:¬(200:Int)<s1.size:=by omega
 have q2:¬(200:Int)<s2.size:=by omega
 have q3:(40:Int)<ln:=by omega
 clear hb hb0 hb1
 clear h1 h2 htab
 go_enter func5,ntmps5
 go_upto_region 1 with fail
 generalize (w.alloc (.cells #[.string s1,.string s2] 43))=v0 at *
 have k0:=HB.out.cell 0;have k1:=HB.out.cell 1;simp at k0 k1
 go_wp2_with (go_at_call 25;(refine(HAW.out _ HT.out).mono ?_);rintro e2 w1 ⟨rfl,ho⟩;replace HB:=zAA (HB.out.only ho (by simp));replace HT:=zAA (HT.out.only ho (by simp));replace HO:=zAA (HO.out.trans ho);clear ho k0 k1;have k0:=HB.out.cell 0;have k1:=HB.out.cell 1;simp at k0 k1)
 go_ret
 exact zBz rfl HO.out
theorem zLJ(w:World)(s1 s2:ByteArray)(lo re:Nat)(beg:Bool)(made:Int)(A:Option Addr)(ln cap:Nat)(h1:s1.size<=maxLen)(h2:s2.size<=maxLen)(htab:Tab w)(hb0:¬200<s1.size)(hb1:¬200<s2.size)(hb2:¬40<ln)(hk0:zAg s1=0):Calls prog 5 #[.agg #[.string s1,.string s2],.int .u32 (lo:Nat),.int .u32 (re:Nat),.bool beg,.int .i64 made,.slice A ln cap] w (zAn true w):=by
 have hk:zAg s1=0∨zAg s2=0:=.inl hk0
 have HAW:=zAA (fun W ht=>zDR W ht)
 unfold zAn at HAW
 have HT:=zAA htab
 have HB:=zAA (Blk.new w 43 #[.string s1,.string s2])
 have HO:=zAA ((Only.refl [] w).alloc (.cells #[.string s1,.string s2] 43))
 replace HT:=zAA (HT.out.only HO.out (by simp))
 have HN1:=zAA (fun W=>zEK W s1 s2 lo re beg made h1 h2 hk)
 have HN2:=zAA (fun W=>zEK W s2 s1 re lo (!beg) made h2 h1 hk.symm)
 have HI1:=zAA (fun W=>zGb W s1 h1)
 have HI2:=zAA (fun W=>zGb W s2 h2)
 unfold zAn at HI1 HI2
 have q1:¬(200:Int)<s1.size:=by omega
 have q2:¬(200:Int)<s2.size:=by omega
 have q3:¬(40:Int)<ln:=by omega
 clear hb0 hb1 hb2
 rw[decide_eq_false (fun h=>h hk0)]at HI1
 clear h1 h2 htab hk hk0
 go_enter func5,ntmps5
 go_upto_region 1 with fail
 generalize (w.alloc (.cells #[.string s1,.string s2] 43))=v0 at *
 have k0:=HB.out.cell 0;have k1:=HB.out.cell 1;simp at k0 k1
 go_wp2_with (first
  | (go_at_call 25;(refine(HAW.out _ HT.out).mono ?_);rintro e2 w1 ⟨rfl,ho⟩;replace HB:=zAA (HB.out.only ho (by simp));replace HT:=zAA (HT.out.only ho (by simp));replace HO:=zAA (HO.out.trans ho);clear ho k0 k1;have k0:=HB.out.cell 0;have k1:=HB.out.cell 1;simp at k0 k1)
  | (go_at_call 26;(with_reducible refine(HN1.out _).mono ?_);rintro e2 w2 ⟨rfl,ho⟩;replace HB:=zAA (HB.out.only ho (by simp));replace HT:=zAA (HT.out.only ho (by simp));replace HO:=zAA (HO.out.trans ho);clear ho k0 k1;have k0:=HB.out.cell 0;have k1:=HB.out.cell 1;simp at k0 k1)
  | (go_at_call 26;(with_reducible refine(HN2.out _).mono ?_);rintro e2 w3 ⟨rfl,ho⟩;replace HB:=zAA (HB.out.only ho (by simp));replace HT:=zAA (HT.out.only ho (by simp));replace HO:=zAA (HO.out.trans ho);clear ho k0 k1;have k0:=HB.out.cell 0;have k1:=HB.out.cell 1;simp at k0 k1)
  | (go_at_call 18;(with_reducible refine(HI1.out _).mono ?_);rintro e2 w4 ⟨rfl,ho⟩;replace HB:=zAA (HB.out.only ho (by simp));replace HT:=zAA (HT.out.only ho (by simp));replace HO:=zAA (HO.out.trans ho);clear ho k0 k1;have k0:=HB.out.cell 0;have k1:=HB.out.cell 1;simp at k0 k1)
  | (go_at_call 18;(with_reducible refine(HI2.out _).mono ?_);rintro e2 w5 ⟨rfl,ho⟩;replace HB:=zAA (HB.out.only ho (by simp));replace HT:=zAA (HT.out.only ho (by simp));replace HO:=zAA (HO.out.trans ho);clear ho k0 k1;have k0:=HB.out.cell 0;have k1:=HB.out.cell 1;simp at k0 k1))
 go_ret
 exact zBz rfl HO.out
theorem zLK(w:World)(s1 s2:ByteArray)(lo re:Nat)(beg:Bool)(made:Int)(A:Option Addr)(ln cap:Nat)(h1:s1.size<=maxLen)(h2:s2.size<=maxLen)(htab:Tab w)(hb0:¬200<s1.size)(hb1:¬200<s2.size)(hb2:¬40<ln)(hk1:zAg s1≠0)(hk0:zAg s2=0):Calls prog 5 #[.agg #[.string s1,.string s2],.int .u32 (lo:Nat),.int .u32 (re:Nat),.bool beg,.int .i64 made,.slice A ln cap] w (zAn true w):=by
 have hk:zAg s1=0∨zAg s2=0:=.inr hk0
 have HAW:=zAA (fun W ht=>zDR W ht)
 unfold zAn at HAW
 have HT:=zAA htab
 have HB:=zAA (Blk.new w 43 #[.string s1,.string s2])
 have HO:=zAA ((Only.refl [] w).alloc (.cells #[.string s1,.string s2] 43))
 replace HT:=zAA (HT.out.only HO.out (by simp))
 have HN1:=zAA (fun W=>zEK W s1 s2 lo re beg made h1 h2 hk)
 have HN2:=zAA (fun W=>zEK W s2 s1 re lo (!beg) made h2 h1 hk.symm)
 have HI1:=zAA (fun W=>zGb W s1 h1)
 have HI2:=zAA (fun W=>zGb W s2 h2)
 unfold zAn at HI1 HI2
 have q1:¬(200:Int)<s1.size:=by omega
 have q2:¬(200:Int)<s2.size:=by omega
 have q3:¬(40:Int)<ln:=by omega
 clear hb0 hb1 hb2
 rw[decide_eq_true hk1]at HI1
 rw[decide_eq_false (fun h=>h hk0)]at HI2
 clear h1 h2 htab hk hk0 hk1
 go_enter func5,ntmps5
 go_upto_region 1 with fail
 generalize (w.alloc (.cells #[.string s1,.string s2] 43))=v0 at *
 have k0:=HB.out.cell 0;have k1:=HB.out.cell 1;simp at k0 k1
 go_wp2_with (first
  | (go_at_call 25;(refine(HAW.out _ HT.out).mono ?_);rintro e2 w1 ⟨rfl,ho⟩;replace HB:=zAA (HB.out.only ho (by simp));replace HT:=zAA (HT.out.only ho (by simp));replace HO:=zAA (HO.out.trans ho);clear ho k0 k1;have k0:=HB.out.cell 0;have k1:=HB.out.cell 1;simp at k0 k1)
  | (go_at_call 26;(with_reducible refine(HN1.out _).mono ?_);rintro e2 w2 ⟨rfl,ho⟩;replace HB:=zAA (HB.out.only ho (by simp));replace HT:=zAA (HT.out.only ho (by simp));replace HO:=zAA (HO.out.trans ho);clear ho k0 k1;have k0:=HB.out.cell 0;have k1:=HB.out.cell 1;simp at k0 k1)
  | (go_at_call 26;(with_reducible refine(HN2.out _).mono ?_);rintro e2 w3 ⟨rfl,ho⟩;replace HB:=zAA (HB.out.only ho (by simp));replace HT:=zAA (HT.out.only ho (by simp));replace HO:=zAA (HO.out.trans ho);clear ho k0 k1;have k0:=HB.out.cell 0;have k1:=HB.out.cell 1;simp at k0 k1)
  | (go_at_call 18;(with_reducible refine(HI1.out _).mono ?_);rintro e2 w4 ⟨rfl,ho⟩;replace HB:=zAA (HB.out.only ho (by simp));replace HT:=zAA (HT.out.only ho (by simp));replace HO:=zAA (HO.out.trans ho);clear ho k0 k1;have k0:=HB.out.cell 0;have k1:=HB.out.cell 1;simp at k0 k1)
  | (go_at_call 18;(with_reducible refine(HI2.out _).mono ?_);rintro e2 w5 ⟨rfl,ho⟩;replace HB:=zAA (HB.out.only ho (by simp));replace HT:=zAA (HT.out.only ho (by simp));replace HO:=zAA (HO.out.trans ho);clear ho k0 k1;have k0:=HB.out.cell 0;have k1:=HB.out.cell 1;simp at k0 k1))
 go_ret
 exact zBz rfl HO.out
theorem zMP(w:World)(s1 s2:ByteArray)(lo re:Nat)(beg:Bool)(made:Int)(A:Option Addr)(ln cap:Nat)(h1:s1.size<=maxLen)(h2:s2.size<=maxLen)(htab:Tab w)(hb0:¬200<s1.size)(hb1:¬200<s2.size)(hb2:¬40<ln)(hk1:zAg s1≠0)(hk2:zAg s2≠0)(ht:zAc made=false):Calls prog 5 #[.agg #[.string s1,.string s2],.int .u32 (lo:Nat),.int .u32 (re:Nat),.bool beg,.int .i64 made,.slice A ln cap] w (zAn true w):=by
 have HAW:=zAA (fun W ht=>zDR W ht)
 unfold zAn at HAW
 have HT:=zAA htab
 have HB:=zAA (Blk.new w 43 #[.string s1,.string s2])
 have HO:=zAA ((Only.refl [] w).alloc (.cells #[.string s1,.string s2] 43))
 replace HT:=zAA (HT.out.only HO.out (by simp))
 have HN1:=zAA (fun W=>zJi W s1 s2 lo re beg made h1 h2 hk1 hk2 ht)
 have HN2:=zAA (fun W=>zJi W s2 s1 re lo (!beg) made h2 h1 hk2 hk1 ht)
 have HI1:=zAA (fun W=>zGb W s1 h1)
 have HI2:=zAA (fun W=>zGb W s2 h2)
 unfold zAn at HI1 HI2
 have q1:¬(200:Int)<s1.size:=by omega
 have q2:¬(200:Int)<s2.size:=by omega
 have q3:¬(40:Int)<ln:=by omega
 clear hb0 hb1 hb2
 have HTV:=zAA ht
 rw[decide_eq_true hk1]at HI1
 rw[decide_eq_true hk2]at HI2
 clear h1 h2 htab hk1 hk2 ht
 go_enter func5,ntmps5
 go_upto_region 1 with fail
 generalize (w.alloc (.cells #[.string s1,.string s2] 43))=v0 at *
 have k0:=HB.out.cell 0;have k1:=HB.out.cell 1;simp at k0 k1
 go_wp2_with (first
  | (go_at_call 25;(refine(HAW.out _ HT.out).mono ?_);rintro e2 w1 ⟨rfl,ho⟩;replace HB:=zAA (HB.out.only ho (by simp));replace HT:=zAA (HT.out.only ho (by simp));replace HO:=zAA (HO.out.trans ho);clear ho k0 k1;have k0:=HB.out.cell 0;have k1:=HB.out.cell 1;simp at k0 k1)
  | (go_at_call 26;(with_reducible refine(HN1.out _).mono ?_);rintro e2 w2 ⟨rfl,ho⟩;replace HB:=zAA (HB.out.only ho (by simp));replace HT:=zAA (HT.out.only ho (by simp));replace HO:=zAA (HO.out.trans ho);clear ho k0 k1;have k0:=HB.out.cell 0;have k1:=HB.out.cell 1;simp at k0 k1)
  | (go_at_call 26;(with_reducible refine(HN2.out _).mono ?_);rintro e2 w3 ⟨rfl,ho⟩;replace HB:=zAA (HB.out.only ho (by simp));replace HT:=zAA (HT.out.only ho (by simp));replace HO:=zAA (HO.out.trans ho);clear ho k0 k1;have k0:=HB.out.cell 0;have k1:=HB.out.cell 1;simp at k0 k1)
  | (go_at_call 18;(with_reducible refine(HI1.out _).mono ?_);rintro e2 w4 ⟨rfl,ho⟩;replace HB:=zAA (HB.out.only ho (by simp));replace HT:=zAA (HT.out.only ho (by simp));replace HO:=zAA (HO.out.trans ho);clear ho k0 k1;have k0:=HB.out.cell 0;have k1:=HB.out.cell 1;simp at k0 k1)
  | (go_at_call 18;(with_reducible refine(HI2.out _).mono ?_);rintro e2 w5 ⟨rfl,ho⟩;replace HB:=zAA (HB.out.only ho (by simp));replace HT:=zAA (HT.out.only ho (by simp));replace HO:=zAA (HO.out.trans ho);clear ho k0 k1;have k0:=HB.out.cell 0;have k1:=HB.out.cell 1;simp at k0 k1)
  | (go_at_call 27;refine(zA4 _ _).mono ?_;rintro e2 w6 ⟨rfl,rfl⟩;rw[HTV.out]))
 go_ret
 exact zBz rfl HO.out
end
section
open Go.RowKit Go.Deep Go.ChangeShapes Go.WideShapes Go.ChangeAt

theorem zMQ{α:Type}{l:List α}(h:l.length=13):∃a0 a1 a2 a3 a4 a5 a6 a7 a8 a9 a10 a11 a12,l=[a0,a1,a2,a3,a4,a5,a6,a7,a8,a9,a10,a11,a12]:=by
 match l,h with
 | [a0,a1,a2,a3,a4,a5,a6,a7,a8,a9,a10,a11,a12],_=>exact⟨a0,a1,a2,a3,a4,a5,a6,a7,a8,a9,a10,a11,a12,rfl⟩
theorem zHo{n:Int}(h:(Lit.int .u32 n).wf=true):∃x:Nat,n=x∧x<4294967296:=by
 simp only[Lit.wf,Bool.and_eq_true,decide_eq_true_eq]at h
 have e1:IntKind.u32.min=0:=rfl
 have e2:IntKind.u32.max=4294967295:=rfl
 exact⟨n.toNat,by omega,by omega⟩
theorem zLa{n:Int}(h:(Lit.int .u64 n).wf=true):∃x:Nat,n=x∧x<18446744073709551616:=by
 simp only[Lit.wf,Bool.and_eq_true,decide_eq_true_eq]at h
 have e1:IntKind.u64.min=0:=rfl
 have e2:IntKind.u64.max=18446744073709551615:=rfl
 exact⟨n.toNat,by omega,by omega⟩
section
variable {H:Type} {enc:TypeId×Value->H} {w:World} {base:Nat} {spare:Nat->Bool} {held:Bool}
end
end
section
open Go.Proofs.Tryz
set_option maxHeartbeats 3200000
set_option maxRecDepth 100000
open Go.RowKit Go.Deep Go.ChangeShapes Go.WideShapes Go.ChangeAt

theorem zMR{α:Type}{l:List α}(h:l.length=17):∃a0 a1 a2 a3 a4 a5 a6 a7 a8 a9 a10 a11 a12 a13 a14 a15 a16,l=[a0,a1,a2,a3,a4,a5,a6,a7,a8,a9,a10,a11,a12,a13,a14,a15,a16]:=by
 match l,h with
 | [a0,a1,a2,a3,a4,a5,a6,a7,a8,a9,a10,a11,a12,a13,a14,a15,a16],_=>exact⟨a0,a1,a2,a3,a4,a5,a6,a7,a8,a9,a10,a11,a12,a13,a14,a15,a16,rfl⟩
theorem zMp{α:Type}{l:List α}(h:l.length=2):∃a0 a1,l=[a0,a1]:=by
 match l,h with
 | [a0,a1],_=>exact⟨a0,a1,rfl⟩
structure Pac where
 k:Nat
 now:Int
 v:Value
 b:List UInt8
 n:Nat
 m:Mg
def acC(a:Pac):List Value:=[.int .u8 (a.k:Nat),.int .i64 a.now,a.v,.int .u64 (a.n:Nat)]++a.m.cells.toList
def zBm(w:World)(a:Pac):Prop:=Rd w [] a.v (zBR .u8 (zBo a.b))∧a.m.Fine∧a.n<18446744073709551616
theorem zLb{n:Int}(h:(Lit.int .u8 n).wf=true):∃x:Nat,n=x∧x<256:=by
 simp only[Lit.wf,Bool.and_eq_true,decide_eq_true_eq]at h
 have e1:IntKind.u8.min=0:=rfl
 have e2:IntKind.u8.max=255:=rfl
 exact⟨n.toNat,by omega,by omega⟩
section
variable {H:Type} {enc:TypeId×Value->H} {w:World} {base:Nat} {spare:Nat->Bool} {held:Bool}
theorem zMS{n:Nat}{cs:List Value}{y:DataW H×List MemPlace}(h:DataW.trod enc prog w base spare held n 25 cs=some y):∃m:Mg,m.cells.toList=cs∧m.Fine:=by
 obtain⟨xs,m,_,_,hl,hx,hf⟩:=DataW.trod_struct underlying25 h
 rw[show prog.cellsOf 25=13 from by kernel_rfl]at hl
 obtain⟨a0,a1,a2,a3,a4,a5,a6,a7,a8,a9,a10,a11,a12,hc⟩:=zMQ hl
 rw[hc]at hf
 have h0:=hf 0 _ rfl
 have h1:=hf 1 _ rfl
 have h2:=hf 2 _ rfl
 have h3:=hf 3 _ rfl
 have h4:=hf 4 _ rfl
 have h5:=hf 5 _ rfl
 have h6:=hf 6 _ rfl
 have h7:=hf 7 _ rfl
 have h8:=hf 8 _ rfl
 have h9:=hf 9 _ rfl
 have h10:=hf 10 _ rfl
 have h11:=hf 11 _ rfl
 have h12:=hf 12 _ rfl
 simp only[List.getElem_toArray,List.getElem_cons_zero,List.getElem_cons_succ,show prog.cellsOf 3=1 from by kernel_rfl,show prog.cellsOf 22=1 from by kernel_rfl,show prog.cellsOf 23=1 from by kernel_rfl,show prog.cellsOf 9=1 from by kernel_rfl]at h0 h1 h2 h3 h4 h5 h6 h7 h8 h9 h10 h11 h12
 rw[List.getElem?_eq_getElem (by rw[hx];decide)]at h0 h1 h2 h3 h4 h5 h6 h7 h8 h9 h10 h11 h12
 obtain⟨n0,z0,_,w0⟩:=DataW.trod_int underlying3 h0
 obtain⟨n1,z1,_,w1⟩:=DataW.trod_int underlying22 h1
 obtain⟨n2,z2,_,w2⟩:=DataW.trod_int underlying22 h2
 obtain⟨n3,z3,_,w3⟩:=DataW.trod_int underlying23 h3
 obtain⟨s4,z4,_,w4⟩:=DataW.trod_string underlying9 h4
 obtain⟨s5,z5,_,w5⟩:=DataW.trod_string underlying9 h5
 obtain⟨s6,z6,_,w6⟩:=DataW.trod_string underlying9 h6
 obtain⟨s7,z7,_,w7⟩:=DataW.trod_string underlying9 h7
 obtain⟨s8,z8,_,w8⟩:=DataW.trod_string underlying9 h8
 obtain⟨s9,z9,_,w9⟩:=DataW.trod_string underlying9 h9
 obtain⟨s10,z10,_,w10⟩:=DataW.trod_string underlying9 h10
 obtain⟨s11,z11,_,w11⟩:=DataW.trod_string underlying9 h11
 obtain⟨s12,z12,_,w12⟩:=DataW.trod_string underlying9 h12
 simp at z0 z1 z2 z3 z4 z5 z6 z7 z8 z9 z10 z11 z12
 obtain⟨s,rfl,hs⟩:=zHo w1
 obtain⟨r2,rfl,hr⟩:=zHo w2
 obtain⟨c,rfl,hcc⟩:=zLa w3
 refine⟨⟨n0,s,r2,c,s4,s5,s6,s7,s8,s9,s10,s11,s12⟩,?_,⟨hs,hr,hcc,w4,w5,w6,w7,w8,w9,w10,w11,w12⟩⟩
 rw[hc,z0,z1,z2,z3,z4,z5,z6,z7,z8,z9,z10,z11,z12]
 rfl
theorem zLL{n:Nat}{cs:List Value}{y:DataW H×List MemPlace}(h:DataW.trod enc prog w base spare held n 57 cs=some y):∃a:Pac,acC a=cs∧zBm w a:=by
 obtain⟨xs,m,_,_,hl,hx,hf⟩:=DataW.trod_struct underlying57 h
 rw[show prog.cellsOf 57=17 from by kernel_rfl]at hl
 obtain⟨a0,a1,a2,a3,a4,a5,a6,a7,a8,a9,a10,a11,a12,a13,a14,a15,a16,hc⟩:=zMR hl
 rw[hc]at hf
 have h0:=hf 0 _ rfl
 have h1:=hf 1 _ rfl
 have h2:=hf 2 _ rfl
 have h3:=hf 3 _ rfl
 have h4:=hf 4 _ rfl
 simp only[List.getElem_toArray,List.getElem_cons_zero,List.getElem_cons_succ,show prog.cellsOf 5=1 from by kernel_rfl,show prog.cellsOf 2=1 from by kernel_rfl,show prog.cellsOf 55=1 from by kernel_rfl,show prog.cellsOf 23=1 from by kernel_rfl,show prog.cellsOf 25=13 from by kernel_rfl]at h0 h1 h2 h3 h4
 rw[List.getElem?_eq_getElem (by rw[hx];decide)]at h0 h1 h2 h3 h4
 obtain⟨n0,z0,_,w0⟩:=DataW.trod_int underlying5 h0
 obtain⟨n1,z1,_,w1⟩:=DataW.trod_int underlying2 h1
 obtain⟨n3,z3,_,w3⟩:=DataW.trod_int underlying23 h3
 have hsl:∃A len cap,a2=.slice A len cap:=by
  rcases open_slice underlying55 h2 with ⟨hcs,_⟩|⟨a,l,c',_,_,_,_,hcs,_⟩
  ·simp at hcs
   exact⟨_,_,_,hcs⟩
  ·simp at hcs
   exact⟨_,_,_,hcs⟩
 obtain⟨A,len,cap,rfl⟩:=hsl
 obtain⟨zs,hrd,hwf⟩:=zHs (k:=.u8) (A:=A) (len:=len) (cap:=cap) (d:=(xs[2]'(by rw[hx];decide)).1) (p:=(xs[2]'(by rw[hx];decide)).2) underlying55 underlying5 (by kernel_rfl) ⟨m,by simpa [Value.cells] using h2⟩
 obtain⟨b,rfl⟩:=zLc zs (fun z hz=>by
  obtain⟨x,rfl,hx2⟩:=zLb (hwf z hz)
  omega)
 obtain⟨mm,hm,hF⟩:=zMS h4
 simp at z0 z1 z3
 obtain⟨x0,rfl,_⟩:=zLb w0
 obtain⟨x3,rfl,hx3⟩:=zLa w3
 refine⟨⟨x0,n1,.slice A len cap,b,x3,mm⟩,?_,hrd,hF,hx3⟩
 rw[hc]
 unfold acC
 simp only
 rw[hm,<-z0,<-z1,<-z3]
 simp
theorem zIb{A:Option Addr}{len cap:Nat}{d:DataW H}{ps:List MemPlace}(h:DataW.Trod enc prog w base spare held 44 (.slice A len cap) d ps):∃l:List Pac,RdS 17 acC w [] (.slice A len cap) l∧∀a∈l,zBm w a :=
 zGf underlying44 (by kernel_rfl) (by omega) h fun _ _ _ hy=>zLL hy
theorem zJ7{r:Reach}{b0:Nat}{v:Value}{d:DataW H}{ps:List MemPlace}(hv:Value.okWide prog w r b0 43 v)(h:DataW.Trod enc prog w base spare held 43 v d ps) :
  ∃s1 s2:ByteArray,v=.agg #[.string s1,.string s2]∧s1.size<=maxLen∧s2.size<=maxLen:=by
 obtain⟨cs,rfl,hcs⟩:=okWide_struct underlying43 hv
 obtain⟨fuel,hf⟩:=h
 obtain⟨xs,m,_,_,hl,hx,hf⟩:=DataW.trod_struct underlying43 hf
 rw[show prog.cellsOf 43=2 from by kernel_rfl]at hl
 obtain⟨a0,a1,hc⟩:=zMp hl
 rw[hc]at hf
 have h0:=hf 0 _ rfl
 have h1:=hf 1 _ rfl
 simp only[List.getElem_toArray,List.getElem_cons_zero,List.getElem_cons_succ,show prog.cellsOf 9=1 from by kernel_rfl]at h0 h1
 rw[List.getElem?_eq_getElem (by rw[hx];decide)]at h0 h1
 obtain⟨s0,z0,_,w0⟩:=DataW.trod_string underlying9 h0
 obtain⟨s1,z1,_,w1⟩:=DataW.trod_string underlying9 h1
 simp at z0 z1
 refine⟨s0,s1,?_,w0,w1⟩
 have:cs=#[a0,a1]:=by
  have:cs.toList=[a0,a1]:=by simpa [Value.cells] using hc
  rw[<-Array.toArray_toList (xs:=cs),this]
 rw[this,z0,z1]
end
end
end Go.Proofs.YtfipdjlalfpbnaaGreatDoor
