/-
  Walks and plain words (texts Pf2). No condition beyond those that each theorem states.
-/
import Derived.Test.YtfipdjlalfpbnaaGreatDoorA23
import Derived.Test.YtfipdjlalfpbnaaGreatDoorA31
namespace Go.Proofs.YtfipdjlalfpbnaaGreatDoor
section
open Go.Proofs.Tryz
set_option maxHeartbeats 12800000
set_option maxRecDepth 100000
open Go.RowKit Go.Deep

theorem zAY{P:Program}{fn:Func}{p q r:Tmp}{ty:TypeId}(h:fn.results=#[.cell p ty,.tmp q,.tmp r])(tmps:Array Value)(w:World)(g:Nat)(t:TypeId)(cs:Array Value)(fr:Nat×Nat)(d:TypeDesc)
  (hp:tmps.getD p undef=.pointer (some ⟨g,0,none⟩)) (hg:w.heap[g]?=some (.cells cs t fr))
  (hu:P.underlying ty=some d) (hd:(match d with | .struct _ | .array _ _=>true|_=>false)=true) (hi:(P.info? ty).map (·.size)=some cs.size) :
  (results fn tmps).run P w=.ok (.tuple #[.agg cs,tmps.getD q undef,tmps.getD r undef]) w:=by
 have hp':tmps[p]?.getD undef=.pointer (some ⟨g,0,none⟩):=by simpa using hp
 simp[results,h,hp',asAddr,run_loadVar_row w g t ty cs fr d hg hu hd hi]
def zC6(s1 s2:ByteArray)(lo re:Nat)(beg:Bool)(made:Int)(n:Nat)(N:List Nat)(q:List UInt8×Int×List Nat)(w:World)(e:Ending)(w':World):Prop :=
 ∃A2 l2 c2 v,e=.returned (.tuple #[.agg #[.string s1,.string s2,.int .u32 (lo:Nat),.int .u32 (re:Nat),.bool beg,.int .i64 made,.int .u64 (n:Nat),.slice A2 l2 c2],v,.int .i64 q.2.1])∧Rd w' N (.slice A2 l2 c2) (zBR .u64 (zC9 q.2.2))∧Rd w' [] v (zBR .u8 (zBo q.1))∧Only [] w w'
theorem zB6{s1 s2:ByteArray}{lo re:Nat}{beg:Bool}{made k:Int}{n:Nat}{N:List Nat}{q:List UInt8×Int×List Nat}{L:List Nat}{A:Option Addr}{ln cap:Nat}{w w':World}(hq:q=([],k,L))(hr:Rd w' N (.slice A ln cap) (zBR .u64 (zC9 L)))(ho:Only [] w w') :
  zC6 s1 s2 lo re beg made n N q w (.returned (.tuple #[.agg #[.string s1,.string s2,.int .u32 (lo:Nat),.int .u32 (re:Nat),.bool beg,.int .i64 made,.int .u64 (n:Nat),.slice A ln cap],.slice none 0 0,.int .i64 k])) w':=by subst hq;exact⟨A,ln,cap,_,rfl,hr,Rd.nil _ _,ho⟩
theorem zJw{s1 s2:ByteArray}{lo re:Nat}{beg:Bool}{made:Int}{n:Nat}{N:List Nat}{q:List UInt8×Int×List Nat}{L:List Nat}{b:List UInt8}{A B:Option Addr}{ln cap lb cb:Nat}{w w':World}(hq:q=(b,0,L))(hr:Rd w' N (.slice A ln cap) (zBR .u64 (zC9 L)))(hb:Rd w' [] (.slice B lb cb) (zBR .u8 (zBo b)))(ho:Only [] w w') :
  zC6 s1 s2 lo re beg made n N q w (.returned (.tuple #[.agg #[.string s1,.string s2,.int .u32 (lo:Nat),.int .u32 (re:Nat),.bool beg,.int .i64 made,.int .u64 (n:Nat),.slice A ln cap],.slice B lb cb,.int .i64 0])) w':=by subst hq;exact⟨A,ln,cap,_,rfl,hr,hb,ho⟩
theorem zJx{m:Mg}(h:zAG m=true)(hk:m.k=4):m.x10.size<=1000000:=by
 unfold zAG at h
 rw[Bool.and_eq_true,Bool.and_eq_true,List.all_eq_true]at h
 have h1:=h.2.1 m.x10 (by unfold zAU;rw[if_neg (by omega),if_neg (by omega),if_neg (by omega)];simp)
 unfold zAz at h1
 rw[Bool.and_eq_true,decide_eq_true_eq]at h1
 have:=h1.1
 omega
theorem zME(t key:ByteArray)(n:Nat)(v:ByteArray):(zBD t key n v).1.size<=t.size:=by
 unfold zBD
 cases hp:zAE t with
 | none=>exact Nat.zero_le _
 | some nd =>
  obtain⟨k',m,b,l⟩:=nd
  simp only
  by_cases hk:k'≠10
  ·rw[if_pos hk];exact Nat.zero_le _
  ·rw[if_neg hk]
   have h9:=(zCa hp).2.2.2.2.2.2.2.2.1
   by_cases hc:l.getD 0 ByteArray.empty=key∧m=n∧l.getD 2 ByteArray.empty=v
   ·rw[if_pos hc]
    show(l.getD 1 ByteArray.empty).size<=t.size
    rcases Nat.lt_or_ge 1 l.length with h|h
    ·rw[List.getD_eq_getElem?_getD,List.getElem?_eq_getElem h];exact h9 _ (List.getElem_mem h)
    ·rw[List.getD_eq_getElem?_getD,List.getElem?_eq_none h];exact Nat.zero_le _
   ·rw[if_neg hc];exact Nat.zero_le _
theorem zJy{w:World}{N:List Nat}{v:Value}{xs:List Value}(h:Rd w N v xs)(gs:List Nat)(hg:∀g∈gs,w.heap.size<=g):Rd w (gs++N) v xs:=by
 obtain⟨A,cap,hv,hc,hm,h⟩:=h
 refine⟨A,cap,hv,hc,hm,?_⟩
 rcases h with h|⟨b,o,hA,hn,hl,hcell⟩
 ·exact .inl h
 ·refine .inr ⟨b,o,hA,fun hx=>?_,hl,hcell⟩
  rcases List.mem_append.1 hx with hx|hx
  ·have:=hg b hx;omega
  ·exact hn hx
theorem zG5(w:World)(s:ByteArray)(hs:s.size<=maxLen):Calls prog 39 #[.string s] w fun e w'=>∃bv pv,e=.returned (.agg #[.int .i64 (zFt s).1,.int .u64 ((zFt s).2.1:Nat),bv,pv])∧Only [] w w' ∧
   (∀N:List Nat,(∀x∈N,x<w.heap.size)->Rd w' N bv (zBR .u8 (zBo (zFt s).2.2.1)))∧Rd w' [] pv (zAq (zFt s).2.2.2) :=
 (zGQ w s hs).mono fun e w' h=>by
  unfold zBW at h
  unfold zFt
  cases hp:zAE s with
  | none =>
   rw[hp]at h
   exact⟨_,_,h.1,h.2,fun N _=>Rd.nil _ N,Rd.nil _ _⟩
  | some nd =>
   rw[hp]at h
   obtain⟨bv,pv,h1,h2,h3,h4⟩:=h
   exact⟨bv,pv,h1,h2,h3,h4 [] (by simp)⟩
theorem zGY(w:World)(s1 s2:ByteArray)(lo re:Nat)(beg:Bool)(made:Int)(n:Nat)(A:Option Addr)(ln cap:Nat)(L:List Nat)(N:List Nat)(hN:∀z∈N,z<w.heap.size)(hLm:zCJ L<18446744073709551616)(hl:L.length<=10000)(hrw:Rd w N (.slice A ln cap) (zBR .u64 (zC9 L)))(now:Int)(m:Mg)(hF:m.Fine)(h1:0<=made)(h2:made<=1125899906842624) :
  Calls prog 32 #[.agg #[.string s1,.string s2,.int .u32 (lo:Nat),.int .u32 (re:Nat),.bool beg,.int .i64 made,.int .u64 (n:Nat),.slice A ln cap],.int .i64 now,.agg m.cells] w (zC6 s1 s2 lo re beg made n N (zAj lo made s2 L now m) w):=by
 obtain⟨res,hres⟩:∃q,zAj lo made s2 L now m=q:=⟨_,rfl⟩
 rw[hres]
 have HV:=zAA (show res=if ¬(m.k=4∧zAG m=true)then (([]:List UInt8),(3:Int),L)else if m.r≠lo then ([],6,L)else if zAc now=false then ([],2,L)else if 180000<=zBn made now∨18446744073709543423<=m.c then ([],10,L)else if zAu L m.c≠0 then ([],9,L)else if (zBD m.x10 s2 m.c ⟨#[48]⟩).2≠0 then ([],8,L)else if (zEx (zBD m.x10 s2 m.c ⟨#[48]⟩).1).2=false then ([],3,L)else ((zEx (zBD m.x10 s2 m.c ⟨#[48]⟩).1).1,0,zDy L m.c)from hres.symm)
 clear hres
 have KR:=zAA (fun W=>zFE W m hF)
 unfold zAn at KR
 have KO:=zAA (fun(h:m.x10.size<=1000000) W=>zJX W m.x10 s2 ⟨#[48]⟩ m.c h)
 unfold zCl at KO
 have HT10:=zAA (fun h hk=>zJx (m:=m) h hk)
 have KN:=zAA (fun W=>zG5 W (zBD m.x10 s2 m.c ⟨#[48]⟩).1 (Nat.le_trans (zME m.x10 s2 m.c ⟨#[48]⟩) hF.x10))
 obtain⟨⟨ot,oe⟩,hoc⟩:∃q,zBD m.x10 s2 m.c ⟨#[48]⟩=q:=⟨_,rfl⟩
 rw[hoc]at HV KO KN
 simp only at HV KO KN
 rw[zIX]at HV
 obtain⟨⟨nk,nn,nb,nl⟩,hwn⟩:∃q,zFt ot=q:=⟨_,rfl⟩
 rw[hwn]at HV KN
 simp only at HV KN
 clear hoc hwn
 have HWD:=zAA (fun W h=>zI4 W ([w.heap.size,w.heap.size+1+1]++N) (.agg #[.slice A ln cap]) L m.c ⟨_,rfl,h⟩ hF.c hLm)
 have HTK:=zAA (fun W h hN2=>zKY W ([w.heap.size,w.heap.size+1+1]++N) (.agg #[.slice A ln cap]) L m.c ⟨_,rfl,h⟩ hN2 hl)
 have HTL:=zAA (fun(h:zAu L m.c=0)=>show zDy L m.c=L++[m.c]by unfold zDy;rw[if_pos h])
 have HM1:=zAA h1
 have HM2:=zAA h2
 have HNN:=zAA hN
 have HRW:=zAA (zJy hrw [w.heap.size,w.heap.size+1+1] (by intro g hg;simp at hg;omega))
 generalize zAG m=rr at *
 generalize zDy L m.c=tkl at *
 generalize zAu L m.c=wd at *
 obtain⟨k,sn,r,cc,x4,x5,x6,x7,x8,x9,x10,x11,x12⟩:=m
 unfold Mg.cells at KR ⊢
 simp only at KR KO HT10 HV HWD HTK HTL ⊢
 have HR0:=zAA (((Blk.new w 53 #[.string s1,.string s2,.int .u32 (lo:Nat),.int .u32 (re:Nat),.bool beg,.int .i64 made,.int .u64 (n:Nat),.slice A ln cap]).alloc (.cells #[.int .i64 k,.int .u32 (sn:Nat),.int .u32 (r:Nat),.int .u64 (cc:Nat),.string x4,.string x5,.string x6,.string x7,.string x8,.string x9,.string x10,.string x11,.string x12] 25)).alloc (.cells #[.string ⟨#[]⟩,.string ⟨#[]⟩,.int .u32 0,.int .u32 0,.bool false,.int .i64 0,.int .u64 0,.slice none 0 0] 53))
 have HMB:=zAA ((Blk.new (w.alloc (.cells #[.string s1,.string s2,.int .u32 (lo:Nat),.int .u32 (re:Nat),.bool beg,.int .i64 made,.int .u64 (n:Nat),.slice A ln cap] 53)) 25 #[.int .i64 k,.int .u32 (sn:Nat),.int .u32 (r:Nat),.int .u64 (cc:Nat),.string x4,.string x5,.string x6,.string x7,.string x8,.string x9,.string x10,.string x11,.string x12]).alloc (.cells #[.string ⟨#[]⟩,.string ⟨#[]⟩,.int .u32 0,.int .u32 0,.bool false,.int .i64 0,.int .u64 0,.slice none 0 0] 53))
 rw[World.size_alloc]at HMB
 have HR2:=zAA (Blk.new ((w.alloc (.cells #[.string s1,.string s2,.int .u32 (lo:Nat),.int .u32 (re:Nat),.bool beg,.int .i64 made,.int .u64 (n:Nat),.slice A ln cap] 53)).alloc (.cells #[.int .i64 k,.int .u32 (sn:Nat),.int .u32 (r:Nat),.int .u64 (cc:Nat),.string x4,.string x5,.string x6,.string x7,.string x8,.string x9,.string x10,.string x11,.string x12] 25)) 53 #[.string ⟨#[]⟩,.string ⟨#[]⟩,.int .u32 0,.int .u32 0,.bool false,.int .i64 0,.int .u64 0,.slice none 0 0])
 rw[World.size_alloc,World.size_alloc]at HR2
 have HO:=zAA ((((Only.refl [] w).alloc (.cells #[.string s1,.string s2,.int .u32 (lo:Nat),.int .u32 (re:Nat),.bool beg,.int .i64 made,.int .u64 (n:Nat),.slice A ln cap] 53)).alloc (.cells #[.int .i64 k,.int .u32 (sn:Nat),.int .u32 (r:Nat),.int .u64 (cc:Nat),.string x4,.string x5,.string x6,.string x7,.string x8,.string x9,.string x10,.string x11,.string x12] 25)).alloc (.cells #[.string ⟨#[]⟩,.string ⟨#[]⟩,.int .u32 0,.int .u32 0,.bool false,.int .i64 0,.int .u64 0,.slice none 0 0] 53))
 replace HRW:=zAA (HRW.out.only HO.out (by simp))
 clear hF h1 h2 hN hrw hl hLm
 go_enter func32,ntmps32
 go_upto_region 1 with fail
 generalize (((w.alloc (.cells #[.string s1,.string s2,.int .u32 (lo:Nat),.int .u32 (re:Nat),.bool beg,.int .i64 made,.int .u64 (n:Nat),.slice A ln cap] 53)).alloc (.cells #[.int .i64 k,.int .u32 (sn:Nat),.int .u32 (r:Nat),.int .u64 (cc:Nat),.string x4,.string x5,.string x6,.string x7,.string x8,.string x9,.string x10,.string x11,.string x12] 25)).alloc (.cells #[.string ⟨#[]⟩,.string ⟨#[]⟩,.int .u32 0,.int .u32 0,.bool false,.int .i64 0,.int .u64 0,.slice none 0 0] 53))=v0 at *
 have r0:=HR0.out.cell 0;have r1:=HR0.out.cell 1;have r2:=HR0.out.cell 2;have r3:=HR0.out.cell 3;have r4:=HR0.out.cell 4;have r5:=HR0.out.cell 5;have r6:=HR0.out.cell 6;have r7:=HR0.out.cell 7;simp at r0 r1 r2 r3 r4 r5 r6 r7;obtain⟨m0,m1,m2,m3,m4,m5,m6,m7,m8,m9,m10,m11,m12⟩:=zA1 HMB.out
 rcases Decidable.em (k=4)with hk4|hk4
 ·cases rr with
  | false =>
   have HVx:=zAA (HV.out.trans (if_pos (fun h=>by cases h.2)))
   replace HV:=HVx
   clear HVx
   have hkb:(k != 4)=false:=by rw[bne_eq_false_iff_eq];exact hk4
   clear hk4 KO KN HWD HTK HTL HT10
   go_upto_region 2 with (first
    | (go_at_call 49;refine(KR.out _).mono ?_;rintro e2 x1 ⟨rfl,ho⟩;replace HR0:=zAA (HR0.out.only ho (by simp));replace HMB:=zAA (HMB.out.only ho (by simp));replace HR2:=zAA (HR2.out.only ho (by simp));replace HRW:=zAA (HRW.out.only ho (by simp));replace HO:=zAA (HO.out.trans ho);clear ho;(first|(clear r0 r1 r2 r3 r4 r5 r6 r7 m0 m1 m2 m3 m4 m5 m6 m7 m8 m9 m10 m11 m12)|skip);have r0:=HR0.out.cell 0;have r1:=HR0.out.cell 1;have r2:=HR0.out.cell 2;have r3:=HR0.out.cell 3;have r4:=HR0.out.cell 4;have r5:=HR0.out.cell 5;have r6:=HR0.out.cell 6;have r7:=HR0.out.cell 7;simp at r0 r1 r2 r3 r4 r5 r6 r7;obtain⟨m0,m1,m2,m3,m4,m5,m6,m7,m8,m9,m10,m11,m12⟩:=zA1 HMB.out))
   rename World=>wE
   (iterate 4 go_step);refine wpList_store_mid rfl _ _ _ rfl _ 0 #[.string s1,.string s2,.int .u32 (lo:Nat),.int .u32 (re:Nat),.bool beg,.int .i64 made,.int .u64 (n:Nat),.slice A ln cap] rfl rfl (zAM HR2.out _ rfl) (by kernel_rfl) (by simp[Value.oneCell']) ?_
   replace HR2:=zAA (show Blk (wE.setCells (w.heap.size+1+1) 0 [.string s1,.string s2,.int .u32 (lo:Nat),.int .u32 (re:Nat),.bool beg,.int .i64 made,.int .u64 (n:Nat),.slice A ln cap]) _ _ #[.string s1,.string s2,.int .u32 (lo:Nat),.int .u32 (re:Nat),.bool beg,.int .i64 made,.int .u64 (n:Nat),.slice A ln cap]from zAJ HR2.out [.string s1,.string s2,.int .u32 (lo:Nat),.int .u32 (re:Nat),.bool beg,.int .i64 made,.int .u64 (n:Nat),.slice A ln cap] rfl)
   replace HO:=zAA (zAL HO.out (Nat.le_succ_of_le (Nat.le_succ _)) [.string s1,.string s2,.int .u32 (lo:Nat),.int .u32 (re:Nat),.bool beg,.int .i64 made,.int .u64 (n:Nat),.slice A ln cap])
   replace HRW:=zAA (HRW.out.only (Only.setCells (S:=[(w.heap.size+1+1)]) (g:=(w.heap.size+1+1)) (.inl (by simp)) 0 [.string s1,.string s2,.int .u32 (lo:Nat),.int .u32 (re:Nat),.bool beg,.int .i64 made,.int .u64 (n:Nat),.slice A ln cap] (Only.refl _ _)) (by simp))
   generalize (wE.setCells (w.heap.size+1+1) 0 [.string s1,.string s2,.int .u32 (lo:Nat),.int .u32 (re:Nat),.bool beg,.int .i64 made,.int .u64 (n:Nat),.slice A ln cap])=wy at *
   (repeat go_step)
   refine bodyPost_ret (zAY rfl _ _ (w.heap.size+1+1) 53 _ (0,0) _ rfl HR2.out underlying53 rfl (by kernel_rfl)) rfl ?_
   exact zB6 HV.out (HRW.out.less (fun x hx=>by simp[hx])) HO.out
  | true =>
   have hkb:(k != 4)=false:=by rw[bne_eq_false_iff_eq];exact hk4
   replace HV:=zAA (HV.out.trans (if_neg (fun h=>h ⟨hk4,rfl⟩)))
   replace KO:=zAA (KO.out (HT10.out rfl hk4))
   clear hk4 HT10
   rcases Decidable.em (r≠lo)with hr6|hr6
   ·have hrl:((r:Int) != (lo:Int))=true:=by rw[bne_iff_ne];omega
    replace HV:=zAA (HV.out.trans (if_pos hr6))
    clear hr6 KO KN HWD HTK HTL
    go_upto_region 4 with (first
     | (go_at_call 49;refine(KR.out _).mono ?_;rintro e2 x1 ⟨rfl,ho⟩;replace HR0:=zAA (HR0.out.only ho (by simp));replace HMB:=zAA (HMB.out.only ho (by simp));replace HR2:=zAA (HR2.out.only ho (by simp));replace HRW:=zAA (HRW.out.only ho (by simp));replace HO:=zAA (HO.out.trans ho);clear ho;(first|(clear r0 r1 r2 r3 r4 r5 r6 r7 m0 m1 m2 m3 m4 m5 m6 m7 m8 m9 m10 m11 m12)|skip);have r0:=HR0.out.cell 0;have r1:=HR0.out.cell 1;have r2:=HR0.out.cell 2;have r3:=HR0.out.cell 3;have r4:=HR0.out.cell 4;have r5:=HR0.out.cell 5;have r6:=HR0.out.cell 6;have r7:=HR0.out.cell 7;simp at r0 r1 r2 r3 r4 r5 r6 r7;obtain⟨m0,m1,m2,m3,m4,m5,m6,m7,m8,m9,m10,m11,m12⟩:=zA1 HMB.out))
    rename World=>wE
    (iterate 4 go_step);refine wpList_store_mid rfl _ _ _ rfl _ 0 #[.string s1,.string s2,.int .u32 (lo:Nat),.int .u32 (re:Nat),.bool beg,.int .i64 made,.int .u64 (n:Nat),.slice A ln cap] rfl rfl (zAM HR2.out _ rfl) (by kernel_rfl) (by simp[Value.oneCell']) ?_
    replace HR2:=zAA (show Blk (wE.setCells (w.heap.size+1+1) 0 [.string s1,.string s2,.int .u32 (lo:Nat),.int .u32 (re:Nat),.bool beg,.int .i64 made,.int .u64 (n:Nat),.slice A ln cap]) _ _ #[.string s1,.string s2,.int .u32 (lo:Nat),.int .u32 (re:Nat),.bool beg,.int .i64 made,.int .u64 (n:Nat),.slice A ln cap]from zAJ HR2.out [.string s1,.string s2,.int .u32 (lo:Nat),.int .u32 (re:Nat),.bool beg,.int .i64 made,.int .u64 (n:Nat),.slice A ln cap] rfl)
    replace HO:=zAA (zAL HO.out (Nat.le_succ_of_le (Nat.le_succ _)) [.string s1,.string s2,.int .u32 (lo:Nat),.int .u32 (re:Nat),.bool beg,.int .i64 made,.int .u64 (n:Nat),.slice A ln cap])
    replace HRW:=zAA (HRW.out.only (Only.setCells (S:=[(w.heap.size+1+1)]) (g:=(w.heap.size+1+1)) (.inl (by simp)) 0 [.string s1,.string s2,.int .u32 (lo:Nat),.int .u32 (re:Nat),.bool beg,.int .i64 made,.int .u64 (n:Nat),.slice A ln cap] (Only.refl _ _)) (by simp))
    generalize (wE.setCells (w.heap.size+1+1) 0 [.string s1,.string s2,.int .u32 (lo:Nat),.int .u32 (re:Nat),.bool beg,.int .i64 made,.int .u64 (n:Nat),.slice A ln cap])=wy at *
    (repeat go_step)
    refine bodyPost_ret (zAY rfl _ _ (w.heap.size+1+1) 53 _ (0,0) _ rfl HR2.out underlying53 rfl (by kernel_rfl)) rfl ?_
    exact zB6 HV.out (HRW.out.less (fun x hx=>by simp[hx])) HO.out
   ·have hrl:((r:Int) != (lo:Int))=false:=by rw[bne_eq_false_iff_eq];omega
    replace HV:=zAA (HV.out.trans (if_neg hr6))
    clear hr6
    rcases Bool.eq_false_or_eq_true (zAc now)with ht|ht
    ·have HTV:=zAA ht
     replace HV:=zAA (HV.out.trans (if_neg (by rw[ht];decide)))
     obtain⟨hn1,hn2⟩:=(zAT now).1 ht
     have HN1:=zAA hn1
     have HN2:=zAA hn2
     clear ht hn1 hn2
     rcases Decidable.em (180000<=zBn made now)with hold|hold
     ·have HOV:=zAA (show decide (180000<=zBn made now)=true from decide_eq_true hold)
      replace HV:=zAA (HV.out.trans (if_pos (.inl hold)))
      clear hold KO KN HWD HTK HTL
      go_upto_region 8 with (first
       | (go_at_call 49;refine(KR.out _).mono ?_;rintro e2 x1 ⟨rfl,ho⟩;replace HR0:=zAA (HR0.out.only ho (by simp));replace HMB:=zAA (HMB.out.only ho (by simp));replace HR2:=zAA (HR2.out.only ho (by simp));replace HRW:=zAA (HRW.out.only ho (by simp));replace HO:=zAA (HO.out.trans ho);clear ho;(first|(clear r0 r1 r2 r3 r4 r5 r6 r7 m0 m1 m2 m3 m4 m5 m6 m7 m8 m9 m10 m11 m12)|skip);have r0:=HR0.out.cell 0;have r1:=HR0.out.cell 1;have r2:=HR0.out.cell 2;have r3:=HR0.out.cell 3;have r4:=HR0.out.cell 4;have r5:=HR0.out.cell 5;have r6:=HR0.out.cell 6;have r7:=HR0.out.cell 7;simp at r0 r1 r2 r3 r4 r5 r6 r7;obtain⟨m0,m1,m2,m3,m4,m5,m6,m7,m8,m9,m10,m11,m12⟩:=zA1 HMB.out)
       | (go_at_call 27;refine(zA4 _ _).mono ?_;rintro e2 x2 ⟨rfl,rfl⟩;rw[HTV.out])
       | (go_at_call 77;refine(zDG _ s1 s2 lo re beg made n A ln cap now HM1.out HM2.out HN1.out HN2.out).mono ?_;unfold zAn;rw[HOV.out];rintro e2 x3 ⟨rfl,ho⟩;replace HR0:=zAA (HR0.out.only ho (by simp));replace HMB:=zAA (HMB.out.only ho (by simp));replace HR2:=zAA (HR2.out.only ho (by simp));replace HRW:=zAA (HRW.out.only ho (by simp));replace HO:=zAA (HO.out.trans ho);clear ho;(first|(clear r0 r1 r2 r3 r4 r5 r6 r7 m0 m1 m2 m3 m4 m5 m6 m7 m8 m9 m10 m11 m12)|skip);have r0:=HR0.out.cell 0;have r1:=HR0.out.cell 1;have r2:=HR0.out.cell 2;have r3:=HR0.out.cell 3;have r4:=HR0.out.cell 4;have r5:=HR0.out.cell 5;have r6:=HR0.out.cell 6;have r7:=HR0.out.cell 7;simp at r0 r1 r2 r3 r4 r5 r6 r7;obtain⟨m0,m1,m2,m3,m4,m5,m6,m7,m8,m9,m10,m11,m12⟩:=zA1 HMB.out))
      rename World=>wE
      (iterate 4 go_step);refine wpList_store_mid rfl _ _ _ rfl _ 0 #[.string s1,.string s2,.int .u32 (lo:Nat),.int .u32 (re:Nat),.bool beg,.int .i64 made,.int .u64 (n:Nat),.slice A ln cap] rfl rfl (zAM HR2.out _ rfl) (by kernel_rfl) (by simp[Value.oneCell']) ?_
      replace HR2:=zAA (show Blk (wE.setCells (w.heap.size+1+1) 0 [.string s1,.string s2,.int .u32 (lo:Nat),.int .u32 (re:Nat),.bool beg,.int .i64 made,.int .u64 (n:Nat),.slice A ln cap]) _ _ #[.string s1,.string s2,.int .u32 (lo:Nat),.int .u32 (re:Nat),.bool beg,.int .i64 made,.int .u64 (n:Nat),.slice A ln cap]from zAJ HR2.out [.string s1,.string s2,.int .u32 (lo:Nat),.int .u32 (re:Nat),.bool beg,.int .i64 made,.int .u64 (n:Nat),.slice A ln cap] rfl)
      replace HO:=zAA (zAL HO.out (Nat.le_succ_of_le (Nat.le_succ _)) [.string s1,.string s2,.int .u32 (lo:Nat),.int .u32 (re:Nat),.bool beg,.int .i64 made,.int .u64 (n:Nat),.slice A ln cap])
      replace HRW:=zAA (HRW.out.only (Only.setCells (S:=[(w.heap.size+1+1)]) (g:=(w.heap.size+1+1)) (.inl (by simp)) 0 [.string s1,.string s2,.int .u32 (lo:Nat),.int .u32 (re:Nat),.bool beg,.int .i64 made,.int .u64 (n:Nat),.slice A ln cap] (Only.refl _ _)) (by simp))
      generalize (wE.setCells (w.heap.size+1+1) 0 [.string s1,.string s2,.int .u32 (lo:Nat),.int .u32 (re:Nat),.bool beg,.int .i64 made,.int .u64 (n:Nat),.slice A ln cap])=wy at *
      (repeat go_step)
      refine bodyPost_ret (zAY rfl _ _ (w.heap.size+1+1) 53 _ (0,0) _ rfl HR2.out underlying53 rfl (by kernel_rfl)) rfl ?_
      exact zB6 HV.out (HRW.out.less (fun x hx=>by simp[hx])) HO.out
     ·rcases Decidable.em (18446744073709543423<=cc)with hmany|hmany
      ·have HOV:=zAA (show decide (180000<=zBn made now)=false from decide_eq_false hold)
       have hmx:decide ((18446744073709543423:Int)<=cc)=true:=by rw[decide_eq_true_iff];omega
       replace HV:=zAA (HV.out.trans (if_pos (.inr hmany)))
       clear hold hmany KO KN HWD HTK HTL
       go_upto_region 8 with (first
        | (go_at_call 49;refine(KR.out _).mono ?_;rintro e2 x1 ⟨rfl,ho⟩;replace HR0:=zAA (HR0.out.only ho (by simp));replace HMB:=zAA (HMB.out.only ho (by simp));replace HR2:=zAA (HR2.out.only ho (by simp));replace HRW:=zAA (HRW.out.only ho (by simp));replace HO:=zAA (HO.out.trans ho);clear ho;(first|(clear r0 r1 r2 r3 r4 r5 r6 r7 m0 m1 m2 m3 m4 m5 m6 m7 m8 m9 m10 m11 m12)|skip);have r0:=HR0.out.cell 0;have r1:=HR0.out.cell 1;have r2:=HR0.out.cell 2;have r3:=HR0.out.cell 3;have r4:=HR0.out.cell 4;have r5:=HR0.out.cell 5;have r6:=HR0.out.cell 6;have r7:=HR0.out.cell 7;simp at r0 r1 r2 r3 r4 r5 r6 r7;obtain⟨m0,m1,m2,m3,m4,m5,m6,m7,m8,m9,m10,m11,m12⟩:=zA1 HMB.out)
        | (go_at_call 27;refine(zA4 _ _).mono ?_;rintro e2 x2 ⟨rfl,rfl⟩;rw[HTV.out])
        | (go_at_call 77;refine(zDG _ s1 s2 lo re beg made n A ln cap now HM1.out HM2.out HN1.out HN2.out).mono ?_;unfold zAn;rw[HOV.out];rintro e2 x3 ⟨rfl,ho⟩;replace HR0:=zAA (HR0.out.only ho (by simp));replace HMB:=zAA (HMB.out.only ho (by simp));replace HR2:=zAA (HR2.out.only ho (by simp));replace HRW:=zAA (HRW.out.only ho (by simp));replace HO:=zAA (HO.out.trans ho);clear ho;(first|(clear r0 r1 r2 r3 r4 r5 r6 r7 m0 m1 m2 m3 m4 m5 m6 m7 m8 m9 m10 m11 m12)|skip);have r0:=HR0.out.cell 0;have r1:=HR0.out.cell 1;have r2:=HR0.out.cell 2;have r3:=HR0.out.cell 3;have r4:=HR0.out.cell 4;have r5:=HR0.out.cell 5;have r6:=HR0.out.cell 6;have r7:=HR0.out.cell 7;simp at r0 r1 r2 r3 r4 r5 r6 r7;obtain⟨m0,m1,m2,m3,m4,m5,m6,m7,m8,m9,m10,m11,m12⟩:=zA1 HMB.out))
       rename World=>wE
       (iterate 4 go_step);refine wpList_store_mid rfl _ _ _ rfl _ 0 #[.string s1,.string s2,.int .u32 (lo:Nat),.int .u32 (re:Nat),.bool beg,.int .i64 made,.int .u64 (n:Nat),.slice A ln cap] rfl rfl (zAM HR2.out _ rfl) (by kernel_rfl) (by simp[Value.oneCell']) ?_
       replace HR2:=zAA (show Blk (wE.setCells (w.heap.size+1+1) 0 [.string s1,.string s2,.int .u32 (lo:Nat),.int .u32 (re:Nat),.bool beg,.int .i64 made,.int .u64 (n:Nat),.slice A ln cap]) _ _ #[.string s1,.string s2,.int .u32 (lo:Nat),.int .u32 (re:Nat),.bool beg,.int .i64 made,.int .u64 (n:Nat),.slice A ln cap]from zAJ HR2.out [.string s1,.string s2,.int .u32 (lo:Nat),.int .u32 (re:Nat),.bool beg,.int .i64 made,.int .u64 (n:Nat),.slice A ln cap] rfl)
       replace HO:=zAA (zAL HO.out (Nat.le_succ_of_le (Nat.le_succ _)) [.string s1,.string s2,.int .u32 (lo:Nat),.int .u32 (re:Nat),.bool beg,.int .i64 made,.int .u64 (n:Nat),.slice A ln cap])
       replace HRW:=zAA (HRW.out.only (Only.setCells (S:=[(w.heap.size+1+1)]) (g:=(w.heap.size+1+1)) (.inl (by simp)) 0 [.string s1,.string s2,.int .u32 (lo:Nat),.int .u32 (re:Nat),.bool beg,.int .i64 made,.int .u64 (n:Nat),.slice A ln cap] (Only.refl _ _)) (by simp))
       generalize (wE.setCells (w.heap.size+1+1) 0 [.string s1,.string s2,.int .u32 (lo:Nat),.int .u32 (re:Nat),.bool beg,.int .i64 made,.int .u64 (n:Nat),.slice A ln cap])=wy at *
       (repeat go_step)
       refine bodyPost_ret (zAY rfl _ _ (w.heap.size+1+1) 53 _ (0,0) _ rfl HR2.out underlying53 rfl (by kernel_rfl)) rfl ?_
       exact zB6 HV.out (HRW.out.less (fun x hx=>by simp[hx])) HO.out
      ·have HOV:=zAA (show decide (180000<=zBn made now)=false from decide_eq_false hold)
       have hmx:decide ((18446744073709543423:Int)<=cc)=false:=by rw[decide_eq_false_iff_not];omega
       replace HV:=zAA (HV.out.trans (if_neg (fun h=>h.elim hold hmany)))
       clear hold hmany
       rcases Decidable.em (wd≠0)with hw|hw
       ·have hwd:(wd != 0)=true:=by rw[bne_iff_ne];exact hw
        replace HV:=zAA (HV.out.trans (if_pos hw))
        clear hw KO KN HTK HTL
        go_upto_region 10 with (first
         | (go_at_call 49;refine(KR.out _).mono ?_;rintro e2 x1 ⟨rfl,ho⟩;replace HR0:=zAA (HR0.out.only ho (by simp));replace HMB:=zAA (HMB.out.only ho (by simp));replace HR2:=zAA (HR2.out.only ho (by simp));replace HRW:=zAA (HRW.out.only ho (by simp));replace HO:=zAA (HO.out.trans ho);clear ho;(first|(clear r0 r1 r2 r3 r4 r5 r6 r7 m0 m1 m2 m3 m4 m5 m6 m7 m8 m9 m10 m11 m12)|skip);have r0:=HR0.out.cell 0;have r1:=HR0.out.cell 1;have r2:=HR0.out.cell 2;have r3:=HR0.out.cell 3;have r4:=HR0.out.cell 4;have r5:=HR0.out.cell 5;have r6:=HR0.out.cell 6;have r7:=HR0.out.cell 7;simp at r0 r1 r2 r3 r4 r5 r6 r7;obtain⟨m0,m1,m2,m3,m4,m5,m6,m7,m8,m9,m10,m11,m12⟩:=zA1 HMB.out)
         | (go_at_call 27;refine(zA4 _ _).mono ?_;rintro e2 x2 ⟨rfl,rfl⟩;rw[HTV.out])
         | (go_at_call 77;refine(zDG _ s1 s2 lo re beg made n A ln cap now HM1.out HM2.out HN1.out HN2.out).mono ?_;unfold zAn;rw[HOV.out];rintro e2 x3 ⟨rfl,ho⟩;replace HR0:=zAA (HR0.out.only ho (by simp));replace HMB:=zAA (HMB.out.only ho (by simp));replace HR2:=zAA (HR2.out.only ho (by simp));replace HRW:=zAA (HRW.out.only ho (by simp));replace HO:=zAA (HO.out.trans ho);clear ho;(first|(clear r0 r1 r2 r3 r4 r5 r6 r7 m0 m1 m2 m3 m4 m5 m6 m7 m8 m9 m10 m11 m12)|skip);have r0:=HR0.out.cell 0;have r1:=HR0.out.cell 1;have r2:=HR0.out.cell 2;have r3:=HR0.out.cell 3;have r4:=HR0.out.cell 4;have r5:=HR0.out.cell 5;have r6:=HR0.out.cell 6;have r7:=HR0.out.cell 7;simp at r0 r1 r2 r3 r4 r5 r6 r7;obtain⟨m0,m1,m2,m3,m4,m5,m6,m7,m8,m9,m10,m11,m12⟩:=zA1 HMB.out)
         | (go_at_call 78;refine(HWD.out _ HRW.out).mono ?_;rintro e2 x4 ⟨rfl,ho⟩;replace HR0:=zAA (HR0.out.only ho (by simp));replace HMB:=zAA (HMB.out.only ho (by simp));replace HR2:=zAA (HR2.out.only ho (by simp));replace HRW:=zAA (HRW.out.only ho (by simp));replace HO:=zAA (HO.out.trans ho);clear ho;(first|(clear r0 r1 r2 r3 r4 r5 r6 r7 m0 m1 m2 m3 m4 m5 m6 m7 m8 m9 m10 m11 m12)|skip);have r0:=HR0.out.cell 0;have r1:=HR0.out.cell 1;have r2:=HR0.out.cell 2;have r3:=HR0.out.cell 3;have r4:=HR0.out.cell 4;have r5:=HR0.out.cell 5;have r6:=HR0.out.cell 6;have r7:=HR0.out.cell 7;simp at r0 r1 r2 r3 r4 r5 r6 r7;obtain⟨m0,m1,m2,m3,m4,m5,m6,m7,m8,m9,m10,m11,m12⟩:=zA1 HMB.out))
        rename World=>wE
        (iterate 4 go_step);refine wpList_store_mid rfl _ _ _ rfl _ 0 #[.string s1,.string s2,.int .u32 (lo:Nat),.int .u32 (re:Nat),.bool beg,.int .i64 made,.int .u64 (n:Nat),.slice A ln cap] rfl rfl (zAM HR2.out _ rfl) (by kernel_rfl) (by simp[Value.oneCell']) ?_
        replace HR2:=zAA (show Blk (wE.setCells (w.heap.size+1+1) 0 [.string s1,.string s2,.int .u32 (lo:Nat),.int .u32 (re:Nat),.bool beg,.int .i64 made,.int .u64 (n:Nat),.slice A ln cap]) _ _ #[.string s1,.string s2,.int .u32 (lo:Nat),.int .u32 (re:Nat),.bool beg,.int .i64 made,.int .u64 (n:Nat),.slice A ln cap]from zAJ HR2.out [.string s1,.string s2,.int .u32 (lo:Nat),.int .u32 (re:Nat),.bool beg,.int .i64 made,.int .u64 (n:Nat),.slice A ln cap] rfl)
        replace HO:=zAA (zAL HO.out (Nat.le_succ_of_le (Nat.le_succ _)) [.string s1,.string s2,.int .u32 (lo:Nat),.int .u32 (re:Nat),.bool beg,.int .i64 made,.int .u64 (n:Nat),.slice A ln cap])
        replace HRW:=zAA (HRW.out.only (Only.setCells (S:=[(w.heap.size+1+1)]) (g:=(w.heap.size+1+1)) (.inl (by simp)) 0 [.string s1,.string s2,.int .u32 (lo:Nat),.int .u32 (re:Nat),.bool beg,.int .i64 made,.int .u64 (n:Nat),.slice A ln cap] (Only.refl _ _)) (by simp))
        generalize (wE.setCells (w.heap.size+1+1) 0 [.string s1,.string s2,.int .u32 (lo:Nat),.int .u32 (re:Nat),.bool beg,.int .i64 made,.int .u64 (n:Nat),.slice A ln cap])=wy at *
        (repeat go_step)
        refine bodyPost_ret (zAY rfl _ _ (w.heap.size+1+1) 53 _ (0,0) _ rfl HR2.out underlying53 rfl (by kernel_rfl)) rfl ?_
        exact zB6 HV.out (HRW.out.less (fun x hx=>by simp[hx])) HO.out
       ·have hwd:(wd != 0)=false:=by rw[bne_eq_false_iff_eq];exact Decidable.not_not.1 hw
        have HTQ:=zAA (HTL.out (Decidable.not_not.1 hw))
        replace HV:=zAA (HV.out.trans (if_neg hw))
        clear hw HTL
        rcases Decidable.em (oe≠0)with hoo|hoo
        ·have hoe:(oe != 0)=true:=by rw[bne_iff_ne];exact hoo
         replace HV:=zAA (HV.out.trans (if_pos hoo))
         clear hoo KN HTK
         go_upto_region 13 with (first
          | (go_at_call 49;refine(KR.out _).mono ?_;rintro e2 x1 ⟨rfl,ho⟩;replace HR0:=zAA (HR0.out.only ho (by simp));replace HMB:=zAA (HMB.out.only ho (by simp));replace HR2:=zAA (HR2.out.only ho (by simp));replace HRW:=zAA (HRW.out.only ho (by simp));replace HO:=zAA (HO.out.trans ho);clear ho;(first|(clear r0 r1 r2 r3 r4 r5 r6 r7 m0 m1 m2 m3 m4 m5 m6 m7 m8 m9 m10 m11 m12)|skip);have r0:=HR0.out.cell 0;have r1:=HR0.out.cell 1;have r2:=HR0.out.cell 2;have r3:=HR0.out.cell 3;have r4:=HR0.out.cell 4;have r5:=HR0.out.cell 5;have r6:=HR0.out.cell 6;have r7:=HR0.out.cell 7;simp at r0 r1 r2 r3 r4 r5 r6 r7;obtain⟨m0,m1,m2,m3,m4,m5,m6,m7,m8,m9,m10,m11,m12⟩:=zA1 HMB.out)
          | (go_at_call 27;refine(zA4 _ _).mono ?_;rintro e2 x2 ⟨rfl,rfl⟩;rw[HTV.out])
          | (go_at_call 77;refine(zDG _ s1 s2 lo re beg made n A ln cap now HM1.out HM2.out HN1.out HN2.out).mono ?_;unfold zAn;rw[HOV.out];rintro e2 x3 ⟨rfl,ho⟩;replace HR0:=zAA (HR0.out.only ho (by simp));replace HMB:=zAA (HMB.out.only ho (by simp));replace HR2:=zAA (HR2.out.only ho (by simp));replace HRW:=zAA (HRW.out.only ho (by simp));replace HO:=zAA (HO.out.trans ho);clear ho;(first|(clear r0 r1 r2 r3 r4 r5 r6 r7 m0 m1 m2 m3 m4 m5 m6 m7 m8 m9 m10 m11 m12)|skip);have r0:=HR0.out.cell 0;have r1:=HR0.out.cell 1;have r2:=HR0.out.cell 2;have r3:=HR0.out.cell 3;have r4:=HR0.out.cell 4;have r5:=HR0.out.cell 5;have r6:=HR0.out.cell 6;have r7:=HR0.out.cell 7;simp at r0 r1 r2 r3 r4 r5 r6 r7;obtain⟨m0,m1,m2,m3,m4,m5,m6,m7,m8,m9,m10,m11,m12⟩:=zA1 HMB.out)
          | (go_at_call 78;refine(HWD.out _ HRW.out).mono ?_;rintro e2 x4 ⟨rfl,ho⟩;replace HR0:=zAA (HR0.out.only ho (by simp));replace HMB:=zAA (HMB.out.only ho (by simp));replace HR2:=zAA (HR2.out.only ho (by simp));replace HRW:=zAA (HRW.out.only ho (by simp));replace HO:=zAA (HO.out.trans ho);clear ho;(first|(clear r0 r1 r2 r3 r4 r5 r6 r7 m0 m1 m2 m3 m4 m5 m6 m7 m8 m9 m10 m11 m12)|skip);have r0:=HR0.out.cell 0;have r1:=HR0.out.cell 1;have r2:=HR0.out.cell 2;have r3:=HR0.out.cell 3;have r4:=HR0.out.cell 4;have r5:=HR0.out.cell 5;have r6:=HR0.out.cell 6;have r7:=HR0.out.cell 7;simp at r0 r1 r2 r3 r4 r5 r6 r7;obtain⟨m0,m1,m2,m3,m4,m5,m6,m7,m8,m9,m10,m11,m12⟩:=zA1 HMB.out)
          | (go_at_call 65;refine(KO.out _).mono ?_;rintro e2 x5 ⟨rfl,ho⟩;replace HR0:=zAA (HR0.out.only ho (by simp));replace HMB:=zAA (HMB.out.only ho (by simp));replace HR2:=zAA (HR2.out.only ho (by simp));replace HRW:=zAA (HRW.out.only ho (by simp));replace HO:=zAA (HO.out.trans ho);clear ho;(first|(clear r0 r1 r2 r3 r4 r5 r6 r7 m0 m1 m2 m3 m4 m5 m6 m7 m8 m9 m10 m11 m12)|skip);have r0:=HR0.out.cell 0;have r1:=HR0.out.cell 1;have r2:=HR0.out.cell 2;have r3:=HR0.out.cell 3;have r4:=HR0.out.cell 4;have r5:=HR0.out.cell 5;have r6:=HR0.out.cell 6;have r7:=HR0.out.cell 7;simp at r0 r1 r2 r3 r4 r5 r6 r7;obtain⟨m0,m1,m2,m3,m4,m5,m6,m7,m8,m9,m10,m11,m12⟩:=zA1 HMB.out))
         rename World=>wE
         (iterate 4 go_step);refine wpList_store_mid rfl _ _ _ rfl _ 0 #[.string s1,.string s2,.int .u32 (lo:Nat),.int .u32 (re:Nat),.bool beg,.int .i64 made,.int .u64 (n:Nat),.slice A ln cap] rfl rfl (zAM HR2.out _ rfl) (by kernel_rfl) (by simp[Value.oneCell']) ?_
         replace HR2:=zAA (show Blk (wE.setCells (w.heap.size+1+1) 0 [.string s1,.string s2,.int .u32 (lo:Nat),.int .u32 (re:Nat),.bool beg,.int .i64 made,.int .u64 (n:Nat),.slice A ln cap]) _ _ #[.string s1,.string s2,.int .u32 (lo:Nat),.int .u32 (re:Nat),.bool beg,.int .i64 made,.int .u64 (n:Nat),.slice A ln cap]from zAJ HR2.out [.string s1,.string s2,.int .u32 (lo:Nat),.int .u32 (re:Nat),.bool beg,.int .i64 made,.int .u64 (n:Nat),.slice A ln cap] rfl)
         replace HO:=zAA (zAL HO.out (Nat.le_succ_of_le (Nat.le_succ _)) [.string s1,.string s2,.int .u32 (lo:Nat),.int .u32 (re:Nat),.bool beg,.int .i64 made,.int .u64 (n:Nat),.slice A ln cap])
         replace HRW:=zAA (HRW.out.only (Only.setCells (S:=[(w.heap.size+1+1)]) (g:=(w.heap.size+1+1)) (.inl (by simp)) 0 [.string s1,.string s2,.int .u32 (lo:Nat),.int .u32 (re:Nat),.bool beg,.int .i64 made,.int .u64 (n:Nat),.slice A ln cap] (Only.refl _ _)) (by simp))
         generalize (wE.setCells (w.heap.size+1+1) 0 [.string s1,.string s2,.int .u32 (lo:Nat),.int .u32 (re:Nat),.bool beg,.int .i64 made,.int .u64 (n:Nat),.slice A ln cap])=wy at *
         (repeat go_step)
         refine bodyPost_ret (zAY rfl _ _ (w.heap.size+1+1) 53 _ (0,0) _ rfl HR2.out underlying53 rfl (by kernel_rfl)) rfl ?_
         exact zB6 HV.out (HRW.out.less (fun x hx=>by simp[hx])) HO.out
        ·have hoe:(oe != 0)=false:=by rw[bne_eq_false_iff_eq];exact Decidable.not_not.1 hoo
         replace HV:=zAA (HV.out.trans (if_neg hoo))
         clear hoo
         go_upto_region 15 with (first
          | (go_at_call 49;refine(KR.out _).mono ?_;rintro e2 x1 ⟨rfl,ho⟩;replace HR0:=zAA (HR0.out.only ho (by simp));replace HMB:=zAA (HMB.out.only ho (by simp));replace HR2:=zAA (HR2.out.only ho (by simp));replace HRW:=zAA (HRW.out.only ho (by simp));replace HO:=zAA (HO.out.trans ho);clear ho;(first|(clear r0 r1 r2 r3 r4 r5 r6 r7 m0 m1 m2 m3 m4 m5 m6 m7 m8 m9 m10 m11 m12)|skip);have r0:=HR0.out.cell 0;have r1:=HR0.out.cell 1;have r2:=HR0.out.cell 2;have r3:=HR0.out.cell 3;have r4:=HR0.out.cell 4;have r5:=HR0.out.cell 5;have r6:=HR0.out.cell 6;have r7:=HR0.out.cell 7;simp at r0 r1 r2 r3 r4 r5 r6 r7;obtain⟨m0,m1,m2,m3,m4,m5,m6,m7,m8,m9,m10,m11,m12⟩:=zA1 HMB.out)
          | (go_at_call 27;refine(zA4 _ _).mono ?_;rintro e2 x2 ⟨rfl,rfl⟩;rw[HTV.out])
          | (go_at_call 77;refine(zDG _ s1 s2 lo re beg made n A ln cap now HM1.out HM2.out HN1.out HN2.out).mono ?_;unfold zAn;rw[HOV.out];rintro e2 x3 ⟨rfl,ho⟩;replace HR0:=zAA (HR0.out.only ho (by simp));replace HMB:=zAA (HMB.out.only ho (by simp));replace HR2:=zAA (HR2.out.only ho (by simp));replace HRW:=zAA (HRW.out.only ho (by simp));replace HO:=zAA (HO.out.trans ho);clear ho;(first|(clear r0 r1 r2 r3 r4 r5 r6 r7 m0 m1 m2 m3 m4 m5 m6 m7 m8 m9 m10 m11 m12)|skip);have r0:=HR0.out.cell 0;have r1:=HR0.out.cell 1;have r2:=HR0.out.cell 2;have r3:=HR0.out.cell 3;have r4:=HR0.out.cell 4;have r5:=HR0.out.cell 5;have r6:=HR0.out.cell 6;have r7:=HR0.out.cell 7;simp at r0 r1 r2 r3 r4 r5 r6 r7;obtain⟨m0,m1,m2,m3,m4,m5,m6,m7,m8,m9,m10,m11,m12⟩:=zA1 HMB.out)
          | (go_at_call 78;refine(HWD.out _ HRW.out).mono ?_;rintro e2 x4 ⟨rfl,ho⟩;replace HR0:=zAA (HR0.out.only ho (by simp));replace HMB:=zAA (HMB.out.only ho (by simp));replace HR2:=zAA (HR2.out.only ho (by simp));replace HRW:=zAA (HRW.out.only ho (by simp));replace HO:=zAA (HO.out.trans ho);clear ho;(first|(clear r0 r1 r2 r3 r4 r5 r6 r7 m0 m1 m2 m3 m4 m5 m6 m7 m8 m9 m10 m11 m12)|skip);have r0:=HR0.out.cell 0;have r1:=HR0.out.cell 1;have r2:=HR0.out.cell 2;have r3:=HR0.out.cell 3;have r4:=HR0.out.cell 4;have r5:=HR0.out.cell 5;have r6:=HR0.out.cell 6;have r7:=HR0.out.cell 7;simp at r0 r1 r2 r3 r4 r5 r6 r7;obtain⟨m0,m1,m2,m3,m4,m5,m6,m7,m8,m9,m10,m11,m12⟩:=zA1 HMB.out)
          | (go_at_call 65;refine(KO.out _).mono ?_;rintro e2 x5 ⟨rfl,ho⟩;replace HR0:=zAA (HR0.out.only ho (by simp));replace HMB:=zAA (HMB.out.only ho (by simp));replace HR2:=zAA (HR2.out.only ho (by simp));replace HRW:=zAA (HRW.out.only ho (by simp));replace HO:=zAA (HO.out.trans ho);clear ho;(first|(clear r0 r1 r2 r3 r4 r5 r6 r7 m0 m1 m2 m3 m4 m5 m6 m7 m8 m9 m10 m11 m12)|skip);have r0:=HR0.out.cell 0;have r1:=HR0.out.cell 1;have r2:=HR0.out.cell 2;have r3:=HR0.out.cell 3;have r4:=HR0.out.cell 4;have r5:=HR0.out.cell 5;have r6:=HR0.out.cell 6;have r7:=HR0.out.cell 7;simp at r0 r1 r2 r3 r4 r5 r6 r7;obtain⟨m0,m1,m2,m3,m4,m5,m6,m7,m8,m9,m10,m11,m12⟩:=zA1 HMB.out)
          | (go_at_call 39;refine(KN.out _).mono ?_;rintro e2 x6 ⟨bv,pv,rfl,ho,hb4,hp4⟩;replace hb4:=hb4 [w.heap.size,w.heap.size+1+1] (by have:=HR2.out.lt;intro x hx;simp at hx;omega);obtain⟨B1,cb1,rfl,_,_⟩:=hb4.formb;obtain⟨B2,cb2,rfl,_,_⟩:=hp4.form;have HBV:=zAA hb4;clear hb4 hp4;replace HR0:=zAA (HR0.out.only ho (by simp));replace HMB:=zAA (HMB.out.only ho (by simp));replace HR2:=zAA (HR2.out.only ho (by simp));replace HRW:=zAA (HRW.out.only ho (by simp));replace HO:=zAA (HO.out.trans ho);clear ho;(first|(clear r0 r1 r2 r3 r4 r5 r6 r7 m0 m1 m2 m3 m4 m5 m6 m7 m8 m9 m10 m11 m12)|skip);have r0:=HR0.out.cell 0;have r1:=HR0.out.cell 1;have r2:=HR0.out.cell 2;have r3:=HR0.out.cell 3;have r4:=HR0.out.cell 4;have r5:=HR0.out.cell 5;have r6:=HR0.out.cell 6;have r7:=HR0.out.cell 7;simp at r0 r1 r2 r3 r4 r5 r6 r7;obtain⟨m0,m1,m2,m3,m4,m5,m6,m7,m8,m9,m10,m11,m12⟩:=zA1 HMB.out))
         have HNG:=zAA (show w.heap.size+1+1<x6.heap.size from HR2.out.lt)
         have HND:=zAA (Blk.new x6 77 #[.int .i64 nk,.int .u64 (nn:Nat),.slice B1 nb.length cb1,.slice B2 (zAq nl).length cb2])
         replace HR0:=zAA (HR0.out.alloc (.cells #[.int .i64 nk,.int .u64 (nn:Nat),.slice B1 nb.length cb1,.slice B2 (zAq nl).length cb2] 77))
         replace HMB:=zAA (HMB.out.alloc (.cells #[.int .i64 nk,.int .u64 (nn:Nat),.slice B1 nb.length cb1,.slice B2 (zAq nl).length cb2] 77))
         replace HR2:=zAA (HR2.out.alloc (.cells #[.int .i64 nk,.int .u64 (nn:Nat),.slice B1 nb.length cb1,.slice B2 (zAq nl).length cb2] 77))
         have hoa:=(Only.refl [] x6).alloc (.cells #[.int .i64 nk,.int .u64 (nn:Nat),.slice B1 nb.length cb1,.slice B2 (zAq nl).length cb2] 77)
         replace HRW:=zAA (HRW.out.only hoa (by simp))
         replace HBV:=zAA (HBV.out.only hoa (by simp))
         replace HO:=zAA (HO.out.trans hoa)
         clear hoa
         generalize (x6.alloc (.cells #[.int .i64 nk,.int .u64 (nn:Nat),.slice B1 nb.length cb1,.slice B2 (zAq nl).length cb2] 77))=v6 at *
         obtain⟨gn,hgn⟩:∃q,q=x6.heap.size:=⟨_,rfl⟩
         rw[<-hgn]at HND HNG ⊢
         clear hgn KN
         (first|(clear r0 r1 r2 r3 r4 r5 r6 r7 m0 m1 m2 m3 m4 m5 m6 m7 m8 m9 m10 m11 m12)|skip)
         have r0:=HR0.out.cell 0;have r1:=HR0.out.cell 1;have r2:=HR0.out.cell 2;have r3:=HR0.out.cell 3;have r4:=HR0.out.cell 4;have r5:=HR0.out.cell 5;have r6:=HR0.out.cell 6;have r7:=HR0.out.cell 7;simp at r0 r1 r2 r3 r4 r5 r6 r7;obtain⟨m0,m1,m2,m3,m4,m5,m6,m7,m8,m9,m10,m11,m12⟩:=zA1 HMB.out
         have nd0:=HND.out.cell 0;simp at nd0
         rcases Decidable.em (nk=4)with hk5|hk5
         ·have hnk:(nk != 4)=false:=by rw[bne_eq_false_iff_eq];exact hk5
          replace HV:=zAA (HV.out.trans (if_neg (by rw[decide_eq_true hk5];decide)))
          clear hk5
          go_upto_region 17 with fail
          go_upto_region 18 with (go_at_call 79;refine(HTK.out _ HRW.out (fun z hz=>by have h8:=HR2.out.lt;have h9:=HO.out.size;rcases List.mem_append.1 hz with hz|hz;(simp at hz;omega);(have:=HNN.out z hz;omega))).mono ?_;rintro e2 x7 ⟨v7,rfl,hrw7,ho⟩;obtain⟨s7,rfl,hrd7⟩:=hrw7;obtain⟨A3,c3,rfl,_,_⟩:=hrd7.formi;have HRX:=zAA hrd7;clear hrd7;replace HND:=zAA (HND.out.only ho (by simp));replace HBV:=zAA (HBV.out.only ho (by simp));replace HR0:=zAA (HR0.out.only ho (by simp));replace HMB:=zAA (HMB.out.only ho (by simp));replace HR2:=zAA (HR2.out.only ho (by simp));replace HO:=zAA (HO.out.trans ho);clear ho;(first|(clear r0 r1 r2 r3 r4 r5 r6 r7 m0 m1 m2 m3 m4 m5 m6 m7 m8 m9 m10 m11 m12)|skip);have r0:=HR0.out.cell 0;have r1:=HR0.out.cell 1;have r2:=HR0.out.cell 2;have r3:=HR0.out.cell 3;have r4:=HR0.out.cell 4;have r5:=HR0.out.cell 5;have r6:=HR0.out.cell 6;have r7:=HR0.out.cell 7;simp at r0 r1 r2 r3 r4 r5 r6 r7;obtain⟨m0,m1,m2,m3,m4,m5,m6,m7,m8,m9,m10,m11,m12⟩:=zA1 HMB.out;have rf0:=HR0.out.frozen)
          clear HRW HTK rf0
          replace HR0:=zAA (show Blk (x7.setCell ⟨w.heap.size,7,none⟩ (.slice A3 (zC9 (L++[cc])).length c3)) _ _ #[.string s1,.string s2,.int .u32 (lo:Nat),.int .u32 (re:Nat),.bool beg,.int .i64 made,.int .u64 (n:Nat),.slice A3 (zC9 (L++[cc])).length c3]from(by have h:=HR0.out.set_ 7 (.slice A3 (zC9 (L++[cc])).length c3);simp only[List.setIfInBounds_toArray,List.set_cons_zero,List.set_cons_succ]at h;exact h))
          replace HR2:=zAA ((show Blk (x7.setCell ⟨w.heap.size,7,none⟩ (.slice A3 (zC9 (L++[cc])).length c3)) _ _ _ from HR2.out.far (p:=⟨w.heap.size,7,none⟩) (by simp;omega) _).drew)
          replace HND:=zAA (show Blk (x7.setCell ⟨w.heap.size,7,none⟩ (.slice A3 (zC9 (L++[cc])).length c3)) _ _ _ from HND.out.far (p:=⟨w.heap.size,7,none⟩) (by have:=HNG.out;simp;omega) _)
          replace HRX:=zAA (HRX.out.only ((Only.refl [w.heap.size] x7).setCell (p:=⟨w.heap.size,7,none⟩) (.inl (by simp)) (.slice A3 (zC9 (L++[cc])).length c3)) (by simp))
          replace HBV:=zAA (HBV.out.only ((Only.refl [w.heap.size] x7).setCell (p:=⟨w.heap.size,7,none⟩) (.inl (by simp)) (.slice A3 (zC9 (L++[cc])).length c3)) (by simp))
          replace HO:=zAA (HO.out.setCell (p:=⟨w.heap.size,7,none⟩) (.inr (Nat.le_refl _)) (.slice A3 (zC9 (L++[cc])).length c3))
          clear HMB
          generalize (x7.setCell ⟨w.heap.size,7,none⟩ (.slice A3 (zC9 (L++[cc])).length c3))=v8 at *
          (first|(clear r0 r1 r2 r3 r4 r5 r6 r7 m0 m1 m2 m3 m4 m5 m6 m7 m8 m9 m10 m11 m12)|skip)
          (first|clear nd0|skip)
          refine wp_region_held_drew (S:=fun W=>Only [w.heap.size+1+1] v8 W) (by kernel_rfl) (by exact(Only.refl [w.heap.size+1+1] v8).drew) (fun hHeld=>?_);generalize v8.drew=wd18 at *
          refine tk 0 ?_ (hy:=by(intro w hSw;(try dsimp only at hSw);have HRw:=HR0.out.only hSw (by simp;omega);have r0:=HRw.cell 0;have r1:=HRw.cell 1;have r2:=HRw.cell 2;have r3:=HRw.cell 3;have r4:=HRw.cell 4;have r5:=HRw.cell 5;have r6:=HRw.cell 6;have r7:=HRw.cell 7;simp at r0 r1 r2 r3 r4 r5 r6 r7;clear HRw;go_simp;try with_reducible rfl))
          refine tk 1 ?_;refine tk 2 ?_ (hy:=by(intro w hSw;(try dsimp only at hSw);have HNw:=HND.out.only hSw (by have:=HNG.out;simp;omega);have q2:=HNw.cell 2;simp at q2;clear HNw;go_simp;try with_reducible rfl))
          refine wpAnyH_ready (rs:=[3]) (by kernel_rfl) (by simp) ?_;refine(AllReadyH.cons rfl (fun K hK=>?_) AllReadyH.nil);rw[if_pos (by rfl)]
          refine wp_store_mid _ _ _ rfl _ _ #[.string s1,.string s2,.int .u32 (lo:Nat),.int .u32 (re:Nat),.bool beg,.int .i64 made,.int .u64 (n:Nat),.slice A3 (zC9 (L++[cc])).length c3] rfl rfl (zAM HR2.out _ rfl) (by kernel_rfl) (by simp[Value.oneCell']) ?_
          replace HR2:=zAA (show Blk (wd18.setCells (w.heap.size+1+1) 0 [.string s1,.string s2,.int .u32 (lo:Nat),.int .u32 (re:Nat),.bool beg,.int .i64 made,.int .u64 (n:Nat),.slice A3 (zC9 (L++[cc])).length c3]) _ _ #[.string s1,.string s2,.int .u32 (lo:Nat),.int .u32 (re:Nat),.bool beg,.int .i64 made,.int .u64 (n:Nat),.slice A3 (zC9 (L++[cc])).length c3]from zAJ HR2.out [.string s1,.string s2,.int .u32 (lo:Nat),.int .u32 (re:Nat),.bool beg,.int .i64 made,.int .u64 (n:Nat),.slice A3 (zC9 (L++[cc])).length c3] rfl)
          refine hK.out _ _ (by exact Only.setCells (.inl (by simp)) 0 [.string s1,.string s2,.int .u32 (lo:Nat),.int .u32 (re:Nat),.bool beg,.int .i64 made,.int .u64 (n:Nat),.slice A3 (zC9 (L++[cc])).length c3] hHeld) (fun hN=>?_)
          clear hK K hHeld;have hHeld:=hN;clear hN;(try simp only[zsa,zsb,zsc,Act.put,zsd,zse,zsf])
          generalize (wd18.setCells (w.heap.size+1+1) 0 [.string s1,.string s2,.int .u32 (lo:Nat),.int .u32 (re:Nat),.bool beg,.int .i64 made,.int .u64 (n:Nat),.slice A3 (zC9 (L++[cc])).length c3])=ws1 at *
          refine tk 4 ?_;refine tk 5 ?_;refine wpAnyH_done (by kernel_rfl) ?_ _
          (repeat go_step)
          refine bodyPost_ret (zAY rfl _ _ (w.heap.size+1+1) 53 _ (0,0) _ rfl HR2.out underlying53 rfl (by kernel_rfl)) rfl ?_
          have hHN:=hHeld
          exact zJw (HV.out.trans (by rw[HTQ.out])) ((HRX.out.only hHeld (by simp)).less (fun x hx=>by simp[hx])) ((HBV.out.only hHeld (by simp)).less (by simp)) (((HO.out.mono (by simp)).trans hHeld).mono (by intro x hx;right;simp at hx;omega))
         ·have hnk:(nk != 4)=true:=by rw[bne_iff_ne];exact hk5
          replace HV:=zAA (HV.out.trans (if_pos (decide_eq_false hk5)))
          clear hk5 HTK
          go_upto_region 16 with fail
          rename World=>wE
          (iterate 4 go_step);refine wpList_store_mid rfl _ _ _ rfl _ 0 #[.string s1,.string s2,.int .u32 (lo:Nat),.int .u32 (re:Nat),.bool beg,.int .i64 made,.int .u64 (n:Nat),.slice A ln cap] rfl rfl (zAM HR2.out _ rfl) (by kernel_rfl) (by simp[Value.oneCell']) ?_
          replace HR2:=zAA (show Blk (wE.setCells (w.heap.size+1+1) 0 [.string s1,.string s2,.int .u32 (lo:Nat),.int .u32 (re:Nat),.bool beg,.int .i64 made,.int .u64 (n:Nat),.slice A ln cap]) _ _ #[.string s1,.string s2,.int .u32 (lo:Nat),.int .u32 (re:Nat),.bool beg,.int .i64 made,.int .u64 (n:Nat),.slice A ln cap]from zAJ HR2.out [.string s1,.string s2,.int .u32 (lo:Nat),.int .u32 (re:Nat),.bool beg,.int .i64 made,.int .u64 (n:Nat),.slice A ln cap] rfl)
          replace HO:=zAA (zAL HO.out (Nat.le_succ_of_le (Nat.le_succ _)) [.string s1,.string s2,.int .u32 (lo:Nat),.int .u32 (re:Nat),.bool beg,.int .i64 made,.int .u64 (n:Nat),.slice A ln cap])
          replace HRW:=zAA (HRW.out.only (Only.setCells (S:=[(w.heap.size+1+1)]) (g:=(w.heap.size+1+1)) (.inl (by simp)) 0 [.string s1,.string s2,.int .u32 (lo:Nat),.int .u32 (re:Nat),.bool beg,.int .i64 made,.int .u64 (n:Nat),.slice A ln cap] (Only.refl _ _)) (by simp))
          generalize (wE.setCells (w.heap.size+1+1) 0 [.string s1,.string s2,.int .u32 (lo:Nat),.int .u32 (re:Nat),.bool beg,.int .i64 made,.int .u64 (n:Nat),.slice A ln cap])=wy at *
          (repeat go_step)
          refine bodyPost_ret (zAY rfl _ _ (w.heap.size+1+1) 53 _ (0,0) _ rfl HR2.out underlying53 rfl (by kernel_rfl)) rfl ?_
          exact zB6 HV.out (HRW.out.less (fun x hx=>by simp[hx])) HO.out
    ·have HTV:=zAA ht
     replace HV:=zAA (HV.out.trans (if_pos ht))
     clear ht KO KN HWD HTK HTL
     go_upto_region 6 with (first
      | (go_at_call 49;refine(KR.out _).mono ?_;rintro e2 x1 ⟨rfl,ho⟩;replace HR0:=zAA (HR0.out.only ho (by simp));replace HMB:=zAA (HMB.out.only ho (by simp));replace HR2:=zAA (HR2.out.only ho (by simp));replace HRW:=zAA (HRW.out.only ho (by simp));replace HO:=zAA (HO.out.trans ho);clear ho;(first|(clear r0 r1 r2 r3 r4 r5 r6 r7 m0 m1 m2 m3 m4 m5 m6 m7 m8 m9 m10 m11 m12)|skip);have r0:=HR0.out.cell 0;have r1:=HR0.out.cell 1;have r2:=HR0.out.cell 2;have r3:=HR0.out.cell 3;have r4:=HR0.out.cell 4;have r5:=HR0.out.cell 5;have r6:=HR0.out.cell 6;have r7:=HR0.out.cell 7;simp at r0 r1 r2 r3 r4 r5 r6 r7;obtain⟨m0,m1,m2,m3,m4,m5,m6,m7,m8,m9,m10,m11,m12⟩:=zA1 HMB.out)
      | (go_at_call 27;refine(zA4 _ _).mono ?_;rintro e2 x2 ⟨rfl,rfl⟩;rw[HTV.out]))
     rename World=>wE
     (iterate 4 go_step);refine wpList_store_mid rfl _ _ _ rfl _ 0 #[.string s1,.string s2,.int .u32 (lo:Nat),.int .u32 (re:Nat),.bool beg,.int .i64 made,.int .u64 (n:Nat),.slice A ln cap] rfl rfl (zAM HR2.out _ rfl) (by kernel_rfl) (by simp[Value.oneCell']) ?_
     replace HR2:=zAA (show Blk (wE.setCells (w.heap.size+1+1) 0 [.string s1,.string s2,.int .u32 (lo:Nat),.int .u32 (re:Nat),.bool beg,.int .i64 made,.int .u64 (n:Nat),.slice A ln cap]) _ _ #[.string s1,.string s2,.int .u32 (lo:Nat),.int .u32 (re:Nat),.bool beg,.int .i64 made,.int .u64 (n:Nat),.slice A ln cap]from zAJ HR2.out [.string s1,.string s2,.int .u32 (lo:Nat),.int .u32 (re:Nat),.bool beg,.int .i64 made,.int .u64 (n:Nat),.slice A ln cap] rfl)
     replace HO:=zAA (zAL HO.out (Nat.le_succ_of_le (Nat.le_succ _)) [.string s1,.string s2,.int .u32 (lo:Nat),.int .u32 (re:Nat),.bool beg,.int .i64 made,.int .u64 (n:Nat),.slice A ln cap])
     replace HRW:=zAA (HRW.out.only (Only.setCells (S:=[(w.heap.size+1+1)]) (g:=(w.heap.size+1+1)) (.inl (by simp)) 0 [.string s1,.string s2,.int .u32 (lo:Nat),.int .u32 (re:Nat),.bool beg,.int .i64 made,.int .u64 (n:Nat),.slice A ln cap] (Only.refl _ _)) (by simp))
     generalize (wE.setCells (w.heap.size+1+1) 0 [.string s1,.string s2,.int .u32 (lo:Nat),.int .u32 (re:Nat),.bool beg,.int .i64 made,.int .u64 (n:Nat),.slice A ln cap])=wy at *
     (repeat go_step)
     refine bodyPost_ret (zAY rfl _ _ (w.heap.size+1+1) 53 _ (0,0) _ rfl HR2.out underlying53 rfl (by kernel_rfl)) rfl ?_
     exact zB6 HV.out (HRW.out.less (fun x hx=>by simp[hx])) HO.out
 ·have hkb:(k != 4)=true:=by rw[bne_iff_ne];exact hk4
  have HVx:=zAA (HV.out.trans (if_pos (fun h=>hk4 h.1)))
  replace HV:=HVx
  clear HVx hk4
  clear KR KO KN HWD HTK HTL HT10
  go_upto_region 2 with fail
  rename World=>wE
  (iterate 4 go_step);refine wpList_store_mid rfl _ _ _ rfl _ 0 #[.string s1,.string s2,.int .u32 (lo:Nat),.int .u32 (re:Nat),.bool beg,.int .i64 made,.int .u64 (n:Nat),.slice A ln cap] rfl rfl (zAM HR2.out _ rfl) (by kernel_rfl) (by simp[Value.oneCell']) ?_
  replace HR2:=zAA (show Blk (wE.setCells (w.heap.size+1+1) 0 [.string s1,.string s2,.int .u32 (lo:Nat),.int .u32 (re:Nat),.bool beg,.int .i64 made,.int .u64 (n:Nat),.slice A ln cap]) _ _ #[.string s1,.string s2,.int .u32 (lo:Nat),.int .u32 (re:Nat),.bool beg,.int .i64 made,.int .u64 (n:Nat),.slice A ln cap]from zAJ HR2.out [.string s1,.string s2,.int .u32 (lo:Nat),.int .u32 (re:Nat),.bool beg,.int .i64 made,.int .u64 (n:Nat),.slice A ln cap] rfl)
  replace HO:=zAA (zAL HO.out (Nat.le_succ_of_le (Nat.le_succ _)) [.string s1,.string s2,.int .u32 (lo:Nat),.int .u32 (re:Nat),.bool beg,.int .i64 made,.int .u64 (n:Nat),.slice A ln cap])
  replace HRW:=zAA (HRW.out.only (Only.setCells (S:=[(w.heap.size+1+1)]) (g:=(w.heap.size+1+1)) (.inl (by simp)) 0 [.string s1,.string s2,.int .u32 (lo:Nat),.int .u32 (re:Nat),.bool beg,.int .i64 made,.int .u64 (n:Nat),.slice A ln cap] (Only.refl _ _)) (by simp))
  generalize (wE.setCells (w.heap.size+1+1) 0 [.string s1,.string s2,.int .u32 (lo:Nat),.int .u32 (re:Nat),.bool beg,.int .i64 made,.int .u64 (n:Nat),.slice A ln cap])=wy at *
  (repeat go_step)
  refine bodyPost_ret (zAY rfl _ _ (w.heap.size+1+1) 53 _ (0,0) _ rfl HR2.out underlying53 rfl (by kernel_rfl)) rfl ?_
  exact zB6 HV.out (HRW.out.less (fun x hx=>by simp[hx])) HO.out
end
end Go.Proofs.YtfipdjlalfpbnaaGreatDoor
