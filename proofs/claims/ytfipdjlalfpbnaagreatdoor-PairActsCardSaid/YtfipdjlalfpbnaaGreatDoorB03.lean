/-
  Walks and plain words (texts Pf1). No condition beyond those that each theorem states.
-/
import Derived.Test.YtfipdjlalfpbnaaGreatDoorA31
import Derived.Test.YtfipdjlalfpbnaaGreatDoorB02
namespace Go.Proofs.YtfipdjlalfpbnaaGreatDoor
section
open Go.Proofs.Tryz
set_option maxHeartbeats 12800000
set_option maxRecDepth 100000
open Go.RowKit Go.Deep

theorem zBA{P:Program}{fn:Func}{p q r:Tmp}{ty ty2:TypeId}(h:fn.results=#[.cell p ty,.cell q ty2,.tmp r])(tmps:Array Value)(w:World)(g g2:Nat)(t t2:TypeId)(cs cs2:Array Value)(fr fr2:Nat×Nat)(d d2:TypeDesc)
  (hp:tmps.getD p undef=.pointer (some ⟨g,0,none⟩)) (hq:tmps.getD q undef=.pointer (some ⟨g2,0,none⟩)) (hg:w.heap[g]?=some (.cells cs t fr)) (hg2:w.heap[g2]?=some (.cells cs2 t2 fr2))
  (hu:P.underlying ty=some d) (hd:(match d with | .struct _ | .array _ _=>true|_=>false)=true) (hi:(P.info? ty).map (·.size)=some cs.size)
  (hu2:P.underlying ty2=some d2) (hd2:(match d2 with | .struct _ | .array _ _=>true|_=>false)=true) (hi2:(P.info? ty2).map (·.size)=some cs2.size) :
  (results fn tmps).run P w=.ok (.tuple #[.agg cs,.agg cs2,tmps.getD r undef]) w:=by
 have hp':tmps[p]?.getD undef=.pointer (some ⟨g,0,none⟩):=by simpa using hp
 have hq':tmps[q]?.getD undef=.pointer (some ⟨g2,0,none⟩):=by simpa using hq
 simp[results,h,hp',hq',asAddr,run_loadVar_row w g t ty cs fr d hg hu hd hi,run_loadVar_row w g2 t2 ty2 cs2 fr2 d2 hg2 hu2 hd2 hi2]
theorem zJ2(w:World)(v:Value)(b:List UInt8)(hb:b.length<=100000)(hv:Rd w [] v (zBR .u8 (zBo b))):Calls prog 73 #[v] w (zBS (zAS 4 0 b []) w):=by
 have HM:=zAA (zGX 4 0 (by omega) v (.slice none 0 0) b hb [] (by simp) (by simp) w hv (Rd.nil _ _))
 unfold zBS at HM
 obtain⟨A,cap,rfl,_,_⟩:=hv.formb
 clear hb hv
 go_enter func73,ntmps73
 go_wp2_with (go_at_call 101;refine HM.out.mono ?_;rintro e w2 ⟨rfl,ho⟩;have HO:=zAA ho;clear ho)
 go_ret
 exact zAN rfl HO.out
theorem zLG{made now:Int}{n:Nat}(hf:180000<=zBn made now∨18446744073709543423<=n):(zAc now&&(!decide (180000<=zBn made now)&&decide (n<18446744073709543423)))=false:=by
 rcases hf with h|h
 ·rw[decide_eq_true h];simp
 ·rw[decide_eq_false (show ¬n<18446744073709543423 by omega),Bool.and_false,Bool.and_false]
theorem zGZ{made now:Int}{n:Nat}(ht:zAc now=true)(hf:¬(180000<=zBn made now∨18446744073709543423<=n)):(zAc now&&(!decide (180000<=zBn made now)&&decide (n<18446744073709543423)))=true:=by
 rw[ht,decide_eq_false (fun h=>hf (.inl h)),decide_eq_true (show n<18446744073709543423 from Nat.lt_of_not_le (fun h=>hf (.inr h)))]
 rfl
def zCb(s1 s2:ByteArray)(lo re:Nat)(beg:Bool)(made:Int)(s:Value)(r:Mg×Int×Nat)(w:World)(e:Ending)(w':World):Prop :=
 e=.returned (.tuple #[.agg #[.string s1,.string s2,.int .u32 (lo:Nat),.int .u32 (re:Nat),.bool beg,.int .i64 made,.int .u64 (r.2.2:Nat),s],.agg r.1.cells,.int .i64 r.2.1])∧Only [] w w'
theorem zC7{s1 s2:ByteArray}{lo re n:Nat}{beg:Bool}{made c:Int}{s:Value}{g:Mg}{cs:Array Value}{r:Mg×Int×Nat}{w w':World}(h:r=(g,c,n))(ho:Only [] w w')(hc:g.cells=cs:=by rfl) :
  zCb s1 s2 lo re beg made s r w (.returned (.tuple #[.agg #[.string s1,.string s2,.int .u32 (lo:Nat),.int .u32 (re:Nat),.bool beg,.int .i64 made,.int .u64 (n:Nat),s],.agg cs,.int .i64 c])) w':=by subst h;subst hc;exact⟨rfl,ho⟩
theorem zDr(w:World)(s1 s2:ByteArray)(lo re:Nat)(beg:Bool)(made:Int)(n:Nat)(A:Option Addr)(ln cap:Nat)(now:Int)(A2:Option Addr)(cap2:Nat)(b:List UInt8)(h1:0<=made)(h2:made<=1125899906842624)(hs1:s1.size<=maxLen)(hb:b.length<=100000)(hrd:Rd w [] (.slice A2 b.length cap2) (zBR .u8 (zBo b)))(hre:re<4294967296)(hn:n<18446744073709551616) :
  Calls prog 30 #[.agg #[.string s1,.string s2,.int .u32 (lo:Nat),.int .u32 (re:Nat),.bool beg,.int .i64 made,.int .u64 (n:Nat),.slice A ln cap],.int .i64 now,.slice A2 b.length cap2] w (zCb s1 s2 lo re beg made (.slice A ln cap) (zAv re made n s1 now b) w):=by
 have HV1:=zAA (fun(h:zAc now=false)=>show zAv re made n s1 now b=(zDo,2,n)by unfold zAv;rw[if_pos h])
 have HV2:=zAA (fun(h:zAc now=true) (h3:180000<=zBn made now∨18446744073709543423<=n)=>show zAv re made n s1 now b=(zDo,10,n)by unfold zAv;rw[if_neg (by rw[h];decide),if_pos h3])
 have HV3:=zAA (fun(h:zAc now=true) (h3:¬(180000<=zBn made now∨18446744073709543423<=n)) (h4:2000<b.length)=>show zAv re made n s1 now b=(zDo,5,n)by unfold zAv;rw[if_neg (by rw[h];decide),if_neg h3,if_pos h4])
 have HV4:=zAA (fun(h:zAc now=true) (h3:¬(180000<=zBn made now∨18446744073709543423<=n)) (h4:¬2000<b.length)=>show zAv re made n s1 now b=if zAG (zBy re n s1 b)=true then (zBy re n s1 b,0,n+1)else (zDo,5,n)by unfold zAv;rw[if_neg (by rw[h];decide),if_neg h3,if_neg h4])
 have HMF:=zAA (zDp (s:=s1) (b:=b) hre hn)
 have KR:=zAA (fun W=>zFE W (zBy re n s1 b) HMF.out)
 unfold zAn at KR
 obtain⟨sx,e_sx⟩:∃x,zEB n s1 b=x:=⟨_,rfl⟩
 have KD4:=zAA (fun W h=>zJ2 W (.slice A2 b.length cap2) b hb h)
 have KS:=zAA (fun W=>zJu W n hn s1 (zAS 4 0 b []) ⟨#[48]⟩ hs1 (zD5 _ _ _ _ (by omega)) (by unfold maxLen;show 1<=_;omega))
 rw[show zAS 10 n [] [s1,zAS 4 0 b [],⟨#[48]⟩]=sx from e_sx]at KS
 have HCS:=zAA (show(zBy re n s1 b).cells=#[.int .i64 4,.int .u32 0,.int .u32 (re:Nat),.int .u64 (n:Nat),.string ⟨#[]⟩,.string ⟨#[]⟩,.string ⟨#[]⟩,.string ⟨#[]⟩,.string ⟨#[]⟩,.string ⟨#[]⟩,.string sx,.string ⟨#[]⟩,.string ⟨#[]⟩]by rw[<-e_sx];rfl)
 rw[HCS.out]at KR
 unfold zBS at KD4 KS
 obtain⟨sm,hsm⟩:∃q,zBy re n s1 b=q:=⟨_,rfl⟩
 rw[hsm]at HV4 KR HCS
 clear hsm e_sx HMF
 obtain⟨rr,hrr⟩:∃q,zAG sm=q:=⟨_,rfl⟩
 rw[hrr]at HV4 KR
 clear hrr
 have HRD:=zAA hrd
 have HM1:=zAA h1
 have HM2:=zAA h2
 generalize zAv re made n s1 now b=res at *
 generalize zAS 4 0 b []=dt at *
 have HNB:=zAA hn
 have HR0:=zAA (((Blk.new w 53 #[.string s1,.string s2,.int .u32 (lo:Nat),.int .u32 (re:Nat),.bool beg,.int .i64 made,.int .u64 (n:Nat),.slice A ln cap]).alloc (.cells #[.string ⟨#[]⟩,.string ⟨#[]⟩,.int .u32 0,.int .u32 0,.bool false,.int .i64 0,.int .u64 0,.slice none 0 0] 53)).alloc (.cells #[.int .i64 0,.int .u32 0,.int .u32 0,.int .u64 0,.string ⟨#[]⟩,.string ⟨#[]⟩,.string ⟨#[]⟩,.string ⟨#[]⟩,.string ⟨#[]⟩,.string ⟨#[]⟩,.string ⟨#[]⟩,.string ⟨#[]⟩,.string ⟨#[]⟩] 25))
 have HR1:=zAA ((Blk.new (w.alloc (.cells #[.string s1,.string s2,.int .u32 (lo:Nat),.int .u32 (re:Nat),.bool beg,.int .i64 made,.int .u64 (n:Nat),.slice A ln cap] 53)) 53 #[.string ⟨#[]⟩,.string ⟨#[]⟩,.int .u32 0,.int .u32 0,.bool false,.int .i64 0,.int .u64 0,.slice none 0 0]).alloc (.cells #[.int .i64 0,.int .u32 0,.int .u32 0,.int .u64 0,.string ⟨#[]⟩,.string ⟨#[]⟩,.string ⟨#[]⟩,.string ⟨#[]⟩,.string ⟨#[]⟩,.string ⟨#[]⟩,.string ⟨#[]⟩,.string ⟨#[]⟩,.string ⟨#[]⟩] 25))
 rw[World.size_alloc]at HR1
 have HR2:=zAA (Blk.new ((w.alloc (.cells #[.string s1,.string s2,.int .u32 (lo:Nat),.int .u32 (re:Nat),.bool beg,.int .i64 made,.int .u64 (n:Nat),.slice A ln cap] 53)).alloc (.cells #[.string ⟨#[]⟩,.string ⟨#[]⟩,.int .u32 0,.int .u32 0,.bool false,.int .i64 0,.int .u64 0,.slice none 0 0] 53)) 25 #[.int .i64 0,.int .u32 0,.int .u32 0,.int .u64 0,.string ⟨#[]⟩,.string ⟨#[]⟩,.string ⟨#[]⟩,.string ⟨#[]⟩,.string ⟨#[]⟩,.string ⟨#[]⟩,.string ⟨#[]⟩,.string ⟨#[]⟩,.string ⟨#[]⟩])
 rw[World.size_alloc,World.size_alloc]at HR2
 have HO:=zAA ((((Only.refl [] w).alloc (.cells #[.string s1,.string s2,.int .u32 (lo:Nat),.int .u32 (re:Nat),.bool beg,.int .i64 made,.int .u64 (n:Nat),.slice A ln cap] 53)).alloc (.cells #[.string ⟨#[]⟩,.string ⟨#[]⟩,.int .u32 0,.int .u32 0,.bool false,.int .i64 0,.int .u64 0,.slice none 0 0] 53)).alloc (.cells #[.int .i64 0,.int .u32 0,.int .u32 0,.int .u64 0,.string ⟨#[]⟩,.string ⟨#[]⟩,.string ⟨#[]⟩,.string ⟨#[]⟩,.string ⟨#[]⟩,.string ⟨#[]⟩,.string ⟨#[]⟩,.string ⟨#[]⟩,.string ⟨#[]⟩] 25))
 obtain⟨nb,hnb⟩:∃q,q=b.length:=⟨_,rfl⟩
 rw[<-hnb]at HV3 HV4 KD4 HRD ⊢
 clear hnb h1 h2 hs1 hb hrd hre hn
 go_enter func30,ntmps30
 go_upto_region 1 with fail
 generalize (((w.alloc (.cells #[.string s1,.string s2,.int .u32 (lo:Nat),.int .u32 (re:Nat),.bool beg,.int .i64 made,.int .u64 (n:Nat),.slice A ln cap] 53)).alloc (.cells #[.string ⟨#[]⟩,.string ⟨#[]⟩,.int .u32 0,.int .u32 0,.bool false,.int .i64 0,.int .u64 0,.slice none 0 0] 53)).alloc (.cells #[.int .i64 0,.int .u32 0,.int .u32 0,.int .u64 0,.string ⟨#[]⟩,.string ⟨#[]⟩,.string ⟨#[]⟩,.string ⟨#[]⟩,.string ⟨#[]⟩,.string ⟨#[]⟩,.string ⟨#[]⟩,.string ⟨#[]⟩,.string ⟨#[]⟩] 25))=v0 at *
 have r0:=HR0.out.cell 0;have r1:=HR0.out.cell 1;have r2:=HR0.out.cell 2;have r3:=HR0.out.cell 3;have r4:=HR0.out.cell 4;have r5:=HR0.out.cell 5;have r6:=HR0.out.cell 6;have r7:=HR0.out.cell 7;simp at r0 r1 r2 r3 r4 r5 r6 r7
 rcases Bool.eq_false_or_eq_true (zAc now)with ht|ht
 ·rcases Decidable.em (180000<=zBn made now∨18446744073709543423<=n)with hf|hf
  ·have HTV:=zAA ht
   have HFV:=zAA (show(zAc now&&(!decide (180000<=zBn made now)&&decide (n<18446744073709543423)))=false from zLG hf)
   have HV:=zAA (HV2.out ht hf)
   clear HV1 HV2 HV3 HV4 KD4 KS KR
   go_upto_region 4 with (first
    | (go_at_call 27;refine(zA4 _ _).mono ?_;rintro e2 x1 ⟨rfl,rfl⟩;rw[HTV.out])
    | (go_at_call 72;refine(zDH _ s1 s2 lo re beg made n A ln cap now HM1.out HM2.out).mono ?_;unfold zAn;rw[HFV.out];rintro e2 x2 ⟨rfl,ho⟩;replace HR0:=zAA (HR0.out.only ho (by simp));replace HR1:=zAA (HR1.out.only ho (by simp));replace HR2:=zAA (HR2.out.only ho (by simp));replace HO:=zAA (HO.out.trans ho);clear ho;(first|(clear r0 r1 r2 r3 r4 r5 r6 r7)|skip);have r0:=HR0.out.cell 0;have r1:=HR0.out.cell 1;have r2:=HR0.out.cell 2;have r3:=HR0.out.cell 3;have r4:=HR0.out.cell 4;have r5:=HR0.out.cell 5;have r6:=HR0.out.cell 6;have r7:=HR0.out.cell 7;simp at r0 r1 r2 r3 r4 r5 r6 r7))
   rename World=>wE
   (iterate 7 go_step);refine wpList_store_mid rfl _ _ _ rfl _ 0 #[.string s1,.string s2,.int .u32 (lo:Nat),.int .u32 (re:Nat),.bool beg,.int .i64 made,.int .u64 (n:Nat),.slice A ln cap] rfl rfl (zAM HR1.out _ rfl) (by kernel_rfl) (by simp[Value.oneCell']) ?_
   replace HR1:=zAA (show Blk (wE.setCells (w.heap.size+1) 0 [.string s1,.string s2,.int .u32 (lo:Nat),.int .u32 (re:Nat),.bool beg,.int .i64 made,.int .u64 (n:Nat),.slice A ln cap]) _ _ #[.string s1,.string s2,.int .u32 (lo:Nat),.int .u32 (re:Nat),.bool beg,.int .i64 made,.int .u64 (n:Nat),.slice A ln cap]from zAJ HR1.out [.string s1,.string s2,.int .u32 (lo:Nat),.int .u32 (re:Nat),.bool beg,.int .i64 made,.int .u64 (n:Nat),.slice A ln cap] rfl)
   replace HR2:=zAA (zCQ HR2.out (Nat.ne_of_lt (Nat.lt_succ_self _)) [.string s1,.string s2,.int .u32 (lo:Nat),.int .u32 (re:Nat),.bool beg,.int .i64 made,.int .u64 (n:Nat),.slice A ln cap])
   replace HO:=zAA (zAL HO.out (Nat.le_succ _) [.string s1,.string s2,.int .u32 (lo:Nat),.int .u32 (re:Nat),.bool beg,.int .i64 made,.int .u64 (n:Nat),.slice A ln cap])
   generalize (wE.setCells (w.heap.size+1) 0 [.string s1,.string s2,.int .u32 (lo:Nat),.int .u32 (re:Nat),.bool beg,.int .i64 made,.int .u64 (n:Nat),.slice A ln cap])=wy at *
   refine wpList_store_mid rfl _ _ _ rfl _ 0 #[.int .i64 0,.int .u32 0,.int .u32 0,.int .u64 0,.string ⟨#[]⟩,.string ⟨#[]⟩,.string ⟨#[]⟩,.string ⟨#[]⟩,.string ⟨#[]⟩,.string ⟨#[]⟩,.string ⟨#[]⟩,.string ⟨#[]⟩,.string ⟨#[]⟩] rfl rfl (zAM HR2.out _ rfl) (by kernel_rfl) (by simp[Value.oneCell']) ?_
   replace HR2:=zAA (show Blk (wy.setCells (w.heap.size+1+1) 0 [.int .i64 0,.int .u32 0,.int .u32 0,.int .u64 0,.string ⟨#[]⟩,.string ⟨#[]⟩,.string ⟨#[]⟩,.string ⟨#[]⟩,.string ⟨#[]⟩,.string ⟨#[]⟩,.string ⟨#[]⟩,.string ⟨#[]⟩,.string ⟨#[]⟩]) _ _ #[.int .i64 0,.int .u32 0,.int .u32 0,.int .u64 0,.string ⟨#[]⟩,.string ⟨#[]⟩,.string ⟨#[]⟩,.string ⟨#[]⟩,.string ⟨#[]⟩,.string ⟨#[]⟩,.string ⟨#[]⟩,.string ⟨#[]⟩,.string ⟨#[]⟩]from zAJ HR2.out [.int .i64 0,.int .u32 0,.int .u32 0,.int .u64 0,.string ⟨#[]⟩,.string ⟨#[]⟩,.string ⟨#[]⟩,.string ⟨#[]⟩,.string ⟨#[]⟩,.string ⟨#[]⟩,.string ⟨#[]⟩,.string ⟨#[]⟩,.string ⟨#[]⟩] rfl)
   replace HR1:=zAA (zCQ HR1.out (Nat.ne_of_gt (Nat.lt_succ_self _)) [.int .i64 0,.int .u32 0,.int .u32 0,.int .u64 0,.string ⟨#[]⟩,.string ⟨#[]⟩,.string ⟨#[]⟩,.string ⟨#[]⟩,.string ⟨#[]⟩,.string ⟨#[]⟩,.string ⟨#[]⟩,.string ⟨#[]⟩,.string ⟨#[]⟩])
   replace HO:=zAA (zAL HO.out (Nat.le_succ_of_le (Nat.le_succ _)) [.int .i64 0,.int .u32 0,.int .u32 0,.int .u64 0,.string ⟨#[]⟩,.string ⟨#[]⟩,.string ⟨#[]⟩,.string ⟨#[]⟩,.string ⟨#[]⟩,.string ⟨#[]⟩,.string ⟨#[]⟩,.string ⟨#[]⟩,.string ⟨#[]⟩])
   generalize (wy.setCells (w.heap.size+1+1) 0 [.int .i64 0,.int .u32 0,.int .u32 0,.int .u64 0,.string ⟨#[]⟩,.string ⟨#[]⟩,.string ⟨#[]⟩,.string ⟨#[]⟩,.string ⟨#[]⟩,.string ⟨#[]⟩,.string ⟨#[]⟩,.string ⟨#[]⟩,.string ⟨#[]⟩])=wz at *
   (repeat go_step)
   refine bodyPost_ret (zBA rfl _ _ (w.heap.size+1) (w.heap.size+1+1) 53 25 _ _ (0,0) (0,0) _ _ rfl rfl HR1.out HR2.out underlying53 rfl (by kernel_rfl) underlying25 rfl (by kernel_rfl)) rfl ?_
   exact zC7 (HV.out) HO.out
  ·rcases Decidable.em (2000<nb)with hb2|hb2
   ·have HTV:=zAA ht
    have HFV:=zAA (show(zAc now&&(!decide (180000<=zBn made now)&&decide (n<18446744073709543423)))=true from zGZ ht hf)
    have hl:(2000:Int)<nb:=by omega
    have HV:=zAA (HV3.out ht hf hb2)
    clear HV1 HV2 HV3 HV4 KD4 KS KR
    go_upto_region 6 with (first
     | (go_at_call 27;refine(zA4 _ _).mono ?_;rintro e2 x1 ⟨rfl,rfl⟩;rw[HTV.out])
     | (go_at_call 72;refine(zDH _ s1 s2 lo re beg made n A ln cap now HM1.out HM2.out).mono ?_;unfold zAn;rw[HFV.out];rintro e2 x2 ⟨rfl,ho⟩;replace HR0:=zAA (HR0.out.only ho (by simp));replace HR1:=zAA (HR1.out.only ho (by simp));replace HR2:=zAA (HR2.out.only ho (by simp));replace HO:=zAA (HO.out.trans ho);clear ho;(first|(clear r0 r1 r2 r3 r4 r5 r6 r7)|skip);have r0:=HR0.out.cell 0;have r1:=HR0.out.cell 1;have r2:=HR0.out.cell 2;have r3:=HR0.out.cell 3;have r4:=HR0.out.cell 4;have r5:=HR0.out.cell 5;have r6:=HR0.out.cell 6;have r7:=HR0.out.cell 7;simp at r0 r1 r2 r3 r4 r5 r6 r7))
    rename World=>wE
    (iterate 7 go_step);refine wpList_store_mid rfl _ _ _ rfl _ 0 #[.string s1,.string s2,.int .u32 (lo:Nat),.int .u32 (re:Nat),.bool beg,.int .i64 made,.int .u64 (n:Nat),.slice A ln cap] rfl rfl (zAM HR1.out _ rfl) (by kernel_rfl) (by simp[Value.oneCell']) ?_
    replace HR1:=zAA (show Blk (wE.setCells (w.heap.size+1) 0 [.string s1,.string s2,.int .u32 (lo:Nat),.int .u32 (re:Nat),.bool beg,.int .i64 made,.int .u64 (n:Nat),.slice A ln cap]) _ _ #[.string s1,.string s2,.int .u32 (lo:Nat),.int .u32 (re:Nat),.bool beg,.int .i64 made,.int .u64 (n:Nat),.slice A ln cap]from zAJ HR1.out [.string s1,.string s2,.int .u32 (lo:Nat),.int .u32 (re:Nat),.bool beg,.int .i64 made,.int .u64 (n:Nat),.slice A ln cap] rfl)
    replace HR2:=zAA (zCQ HR2.out (Nat.ne_of_lt (Nat.lt_succ_self _)) [.string s1,.string s2,.int .u32 (lo:Nat),.int .u32 (re:Nat),.bool beg,.int .i64 made,.int .u64 (n:Nat),.slice A ln cap])
    replace HO:=zAA (zAL HO.out (Nat.le_succ _) [.string s1,.string s2,.int .u32 (lo:Nat),.int .u32 (re:Nat),.bool beg,.int .i64 made,.int .u64 (n:Nat),.slice A ln cap])
    generalize (wE.setCells (w.heap.size+1) 0 [.string s1,.string s2,.int .u32 (lo:Nat),.int .u32 (re:Nat),.bool beg,.int .i64 made,.int .u64 (n:Nat),.slice A ln cap])=wy at *
    refine wpList_store_mid rfl _ _ _ rfl _ 0 #[.int .i64 0,.int .u32 0,.int .u32 0,.int .u64 0,.string ⟨#[]⟩,.string ⟨#[]⟩,.string ⟨#[]⟩,.string ⟨#[]⟩,.string ⟨#[]⟩,.string ⟨#[]⟩,.string ⟨#[]⟩,.string ⟨#[]⟩,.string ⟨#[]⟩] rfl rfl (zAM HR2.out _ rfl) (by kernel_rfl) (by simp[Value.oneCell']) ?_
    replace HR2:=zAA (show Blk (wy.setCells (w.heap.size+1+1) 0 [.int .i64 0,.int .u32 0,.int .u32 0,.int .u64 0,.string ⟨#[]⟩,.string ⟨#[]⟩,.string ⟨#[]⟩,.string ⟨#[]⟩,.string ⟨#[]⟩,.string ⟨#[]⟩,.string ⟨#[]⟩,.string ⟨#[]⟩,.string ⟨#[]⟩]) _ _ #[.int .i64 0,.int .u32 0,.int .u32 0,.int .u64 0,.string ⟨#[]⟩,.string ⟨#[]⟩,.string ⟨#[]⟩,.string ⟨#[]⟩,.string ⟨#[]⟩,.string ⟨#[]⟩,.string ⟨#[]⟩,.string ⟨#[]⟩,.string ⟨#[]⟩]from zAJ HR2.out [.int .i64 0,.int .u32 0,.int .u32 0,.int .u64 0,.string ⟨#[]⟩,.string ⟨#[]⟩,.string ⟨#[]⟩,.string ⟨#[]⟩,.string ⟨#[]⟩,.string ⟨#[]⟩,.string ⟨#[]⟩,.string ⟨#[]⟩,.string ⟨#[]⟩] rfl)
    replace HR1:=zAA (zCQ HR1.out (Nat.ne_of_gt (Nat.lt_succ_self _)) [.int .i64 0,.int .u32 0,.int .u32 0,.int .u64 0,.string ⟨#[]⟩,.string ⟨#[]⟩,.string ⟨#[]⟩,.string ⟨#[]⟩,.string ⟨#[]⟩,.string ⟨#[]⟩,.string ⟨#[]⟩,.string ⟨#[]⟩,.string ⟨#[]⟩])
    replace HO:=zAA (zAL HO.out (Nat.le_succ_of_le (Nat.le_succ _)) [.int .i64 0,.int .u32 0,.int .u32 0,.int .u64 0,.string ⟨#[]⟩,.string ⟨#[]⟩,.string ⟨#[]⟩,.string ⟨#[]⟩,.string ⟨#[]⟩,.string ⟨#[]⟩,.string ⟨#[]⟩,.string ⟨#[]⟩,.string ⟨#[]⟩])
    generalize (wy.setCells (w.heap.size+1+1) 0 [.int .i64 0,.int .u32 0,.int .u32 0,.int .u64 0,.string ⟨#[]⟩,.string ⟨#[]⟩,.string ⟨#[]⟩,.string ⟨#[]⟩,.string ⟨#[]⟩,.string ⟨#[]⟩,.string ⟨#[]⟩,.string ⟨#[]⟩,.string ⟨#[]⟩])=wz at *
    (repeat go_step)
    refine bodyPost_ret (zBA rfl _ _ (w.heap.size+1) (w.heap.size+1+1) 53 25 _ _ (0,0) (0,0) _ _ rfl rfl HR1.out HR2.out underlying53 rfl (by kernel_rfl) underlying25 rfl (by kernel_rfl)) rfl ?_
    exact zC7 (HV.out) HO.out
   ·have HTV:=zAA ht
    have HFV:=zAA (show(zAc now&&(!decide (180000<=zBn made now)&&decide (n<18446744073709543423)))=true from zGZ ht hf)
    have hl:¬(2000:Int)<nb:=by omega
    have HV:=zAA (HV4.out ht hf hb2)
    have HNM2:=zAA (show n+1<18446744073709551616 by omega)
    clear HV1 HV2 HV3 HV4 hf hb2 ht
    go_upto_region 7 with (first
     | (go_at_call 27;refine(zA4 _ _).mono ?_;rintro e2 x1 ⟨rfl,rfl⟩;rw[HTV.out])
     | (go_at_call 72;refine(zDH _ s1 s2 lo re beg made n A ln cap now HM1.out HM2.out).mono ?_;unfold zAn;rw[HFV.out];rintro e2 x2 ⟨rfl,ho⟩;replace HR0:=zAA (HR0.out.only ho (by simp));replace HR1:=zAA (HR1.out.only ho (by simp));replace HR2:=zAA (HR2.out.only ho (by simp));replace HO:=zAA (HO.out.trans ho);clear ho;(first|(clear r0 r1 r2 r3 r4 r5 r6 r7)|skip);have r0:=HR0.out.cell 0;have r1:=HR0.out.cell 1;have r2:=HR0.out.cell 2;have r3:=HR0.out.cell 3;have r4:=HR0.out.cell 4;have r5:=HR0.out.cell 5;have r6:=HR0.out.cell 6;have r7:=HR0.out.cell 7;simp at r0 r1 r2 r3 r4 r5 r6 r7))
    rename World=>v3
    clear r0 r1 r2 r3 r4 r5 r6 r7
    go_cut [9] (fun pv w'=>∃m2,pv=.pointer (some ⟨m2,0,none⟩)∧v3.heap.size<=m2∧Hid (Blk w' m2 25 #[.int .i64 4,.int .u32 0,.int .u32 (re:Nat),.int .u64 (n:Nat),.string ⟨#[]⟩,.string ⟨#[]⟩,.string ⟨#[]⟩,.string ⟨#[]⟩,.string ⟨#[]⟩,.string ⟨#[]⟩,.string sx,.string ⟨#[]⟩,.string ⟨#[]⟩])∧Hid (Only [] v3 w'))
    case first =>
     rename_i JJ KK hJJ hKK
     refine wp_region_held_drew (S:=fun W=>Only [] v3 W) (by kernel_rfl) (by exact(Only.refl [] v3).drew) (fun hHeld=>?_);generalize v3.drew=wd7 at *
     refine tk 0 ?_;refine tk 1 ?_ (hy:=by(intro w hSw;(try dsimp only at hSw);have HRw:=HR0.out.only hSw (by simp);have r3:=HRw.cell 3;simp at r3;clear HRw;go_simp;try with_reducible rfl));refine tk 2 ?_
     refine tk 3 ?_ (hy:=by(intro w hSw;(try dsimp only at hSw);have HRw:=HR0.out.only hSw (by simp);have r6:=HRw.cell 6;simp at r6;clear HRw;go_simp;try with_reducible rfl));refine tk 4 ?_
     refine tk 5 ?_ (hy:=by(intro w hSw;(try dsimp only at hSw);have HRw:=HR0.out.only hSw (by simp);have r6:=HRw.cell 6;simp at r6;clear HRw;go_simp;try with_reducible rfl));refine tk 6 ?_
     refine tk 7 ?_ (hy:=by(intro w hSw;(try dsimp only at hSw);have HRw:=HR0.out.only hSw (by simp);have r0:=HRw.cell 0;simp at r0;clear HRw;go_simp;try with_reducible rfl));refine tk 8 ?_
     refine wpAnyH_ready (rs:=[9,13]) (by kernel_rfl) (by simp) ?_;refine(AllReadyH.cons rfl (fun K hK=>?_) (AllReadyH.cons rfl (fun K hK=>?_) AllReadyH.nil))
     ·go_simp;(go_at_call 73;refine(KD4.out _ (HRD.out.only (HO.out.trans hHeld) (by simp))).mono ?_;rintro e2 w9 ⟨rfl,ho⟩)
      refine hK.out _ _ (by first|exact hHeld.trans ho|exact hHeld.trans (ho.mono (by simp))) (fun hN=>?_);clear hK K ho hHeld;have hHeld:=hN;clear hN;(try simp only[zsa,zsb,zsc,Act.put,zsd,zse,zsf])
      refine wpAnyH_ready (rs:=[10,13]) (by kernel_rfl) (by simp) ?_;refine(AllReadyH.cons rfl (fun K hK=>?_) (AllReadyH.cons rfl (fun K hK=>?_) AllReadyH.nil))
      ·go_simp;(go_at_call 68;refine(KS.out _).mono ?_;rintro e2 w10 ⟨rfl,ho⟩);refine hK.out _ _ (by first|exact hHeld.trans ho|exact hHeld.trans (ho.mono (by simp))) (fun hN=>?_)
       clear hK K ho hHeld;have hHeld:=hN;clear hN;(try simp only[zsa,zsb,zsc,Act.put,zsd,zse,zsf])
       refine wpAnyH_ready (rs:=[11,13]) (by kernel_rfl) (by simp) ?_;refine(AllReadyH.cons rfl (fun K hK=>?_) (AllReadyH.cons rfl (fun K hK=>?_) AllReadyH.nil))
       ·go_simp;refine hK.out _ _ (by exact hHeld.alloc _) (fun hN=>?_);clear hK K hHeld;have hHeld:=hN;clear hN;(try simp only[zsa,zsb,zsc,Act.put,zsd,zse,zsf]);have HSB:=zAA (Blk.new w10 9 #[.string sx])
        obtain⟨sg,hsg⟩:∃g,g=w10.heap.size:=⟨_,rfl⟩;rw[<-hsg]at HSB ⊢;generalize (w10.alloc (.cells #[.string sx] 9))=w11 at *;clear hsg
        refine wpAnyH_ready (rs:=[12,13]) (by kernel_rfl) (by simp) ?_;refine(AllReadyH.cons rfl (fun K hK=>?_) (AllReadyH.cons rfl (fun K hK=>?_) AllReadyH.nil))
        ·go_simp
         (have s0:=HSB.out.cell 0;simp at s0;go_at_call 47;refine(zFA w11 0 re n sg 0 1 sx (by omega) s0).mono ?_;rintro e2 w12 ⟨rfl,ho⟩;clear s0;replace HSB:=zAA (HSB.out.only ho (by simp)))
         refine hK.out _ _ (by first|exact hHeld.trans ho|exact hHeld.trans (ho.mono (by simp))) (fun hN=>?_);clear hK K ho hHeld;have hHeld:=hN;clear hN;(try simp only[zsa,zsb,zsc,Act.put,zsd,zse,zsf])
         refine wpAnyH_ready (rs:=[13]) (by kernel_rfl) (by simp) ?_;refine(AllReadyH.cons rfl (fun K hK=>?_) AllReadyH.nil);go_simp;have HNS:=zAA hHeld.size;refine hK.out _ _ (by exact hHeld.alloc _) (fun hN=>?_)
         clear hK K hHeld;have hHeld:=hN;clear hN;(try simp only[zsa,zsb,zsc,Act.put,zsd,zse,zsf])
         replace HSB:=zAA (HSB.out.alloc (.cells #[.int .i64 0,.int .u32 0,.int .u32 0,.int .u64 0,.string ⟨#[]⟩,.string ⟨#[]⟩,.string ⟨#[]⟩,.string ⟨#[]⟩,.string ⟨#[]⟩,.string ⟨#[]⟩,.string ⟨#[]⟩,.string ⟨#[]⟩,.string ⟨#[]⟩] 25))
         have HNM:=zAA (Blk.new w12 25 #[.int .i64 0,.int .u32 0,.int .u32 0,.int .u64 0,.string ⟨#[]⟩,.string ⟨#[]⟩,.string ⟨#[]⟩,.string ⟨#[]⟩,.string ⟨#[]⟩,.string ⟨#[]⟩,.string ⟨#[]⟩,.string ⟨#[]⟩,.string ⟨#[]⟩])
         generalize (w12.alloc (.cells #[.int .i64 0,.int .u32 0,.int .u32 0,.int .u64 0,.string ⟨#[]⟩,.string ⟨#[]⟩,.string ⟨#[]⟩,.string ⟨#[]⟩,.string ⟨#[]⟩,.string ⟨#[]⟩,.string ⟨#[]⟩,.string ⟨#[]⟩,.string ⟨#[]⟩] 25))=w13 at *
         refine wpAnyH_ready (rs:=[14]) (by kernel_rfl) (by simp) ?_;refine(AllReadyH.cons rfl (fun K hK=>?_) AllReadyH.nil);rw[if_pos (by rfl)]
         refine wp_store_mid _ _ _ rfl _ _ #[.int .i64 4,.int .u32 0,.int .u32 (re:Nat),.int .u64 (n:Nat),.string ⟨#[]⟩,.string ⟨#[]⟩,.string ⟨#[]⟩,.string ⟨#[]⟩,.string ⟨#[]⟩,.string ⟨#[]⟩,.string sx,.string ⟨#[]⟩,.string ⟨#[]⟩] rfl rfl (zAM HNM.out _ rfl) (by kernel_rfl) (by simp[Value.oneCell']) ?_
         have HST2:=zAA (show Blk (w13.setCells _ 0 [.int .i64 4,.int .u32 0,.int .u32 (re:Nat),.int .u64 (n:Nat),.string ⟨#[]⟩,.string ⟨#[]⟩,.string ⟨#[]⟩,.string ⟨#[]⟩,.string ⟨#[]⟩,.string ⟨#[]⟩,.string sx,.string ⟨#[]⟩,.string ⟨#[]⟩]) _ 25 #[.int .i64 4,.int .u32 0,.int .u32 (re:Nat),.int .u64 (n:Nat),.string ⟨#[]⟩,.string ⟨#[]⟩,.string ⟨#[]⟩,.string ⟨#[]⟩,.string ⟨#[]⟩,.string ⟨#[]⟩,.string sx,.string ⟨#[]⟩,.string ⟨#[]⟩]from zAJ HNM.out [.int .i64 4,.int .u32 0,.int .u32 (re:Nat),.int .u64 (n:Nat),.string ⟨#[]⟩,.string ⟨#[]⟩,.string ⟨#[]⟩,.string ⟨#[]⟩,.string ⟨#[]⟩,.string ⟨#[]⟩,.string sx,.string ⟨#[]⟩,.string ⟨#[]⟩] rfl)
         refine hK.out _ _ (by exact zAL hHeld HNS.out [.int .i64 4,.int .u32 0,.int .u32 (re:Nat),.int .u64 (n:Nat),.string ⟨#[]⟩,.string ⟨#[]⟩,.string ⟨#[]⟩,.string ⟨#[]⟩,.string ⟨#[]⟩,.string ⟨#[]⟩,.string sx,.string ⟨#[]⟩,.string ⟨#[]⟩]) (fun hN=>?_)
         clear hK K hHeld;have hHeld:=hN;clear hN;(try simp only[zsa,zsb,zsc,Act.put,zsd,zse,zsf])
         refine wpAnyH_done (by kernel_rfl) ?_ _;dsimp only[Exit.then];refine hKK _ _ ?_;go_meet;exact⟨_,rfl,HNS.out,HST2,zAA hHeld⟩
        ·go_simp;have HNS:=zAA hHeld.size;refine hK.out _ _ (by exact hHeld.alloc _) (fun hN=>?_);clear hK K hHeld;have hHeld:=hN;clear hN;(try simp only[zsa,zsb,zsc,Act.put,zsd,zse,zsf])
         replace HSB:=zAA (HSB.out.alloc (.cells #[.int .i64 0,.int .u32 0,.int .u32 0,.int .u64 0,.string ⟨#[]⟩,.string ⟨#[]⟩,.string ⟨#[]⟩,.string ⟨#[]⟩,.string ⟨#[]⟩,.string ⟨#[]⟩,.string ⟨#[]⟩,.string ⟨#[]⟩,.string ⟨#[]⟩] 25))
         have HNM:=zAA (Blk.new w11 25 #[.int .i64 0,.int .u32 0,.int .u32 0,.int .u64 0,.string ⟨#[]⟩,.string ⟨#[]⟩,.string ⟨#[]⟩,.string ⟨#[]⟩,.string ⟨#[]⟩,.string ⟨#[]⟩,.string ⟨#[]⟩,.string ⟨#[]⟩,.string ⟨#[]⟩])
         generalize (w11.alloc (.cells #[.int .i64 0,.int .u32 0,.int .u32 0,.int .u64 0,.string ⟨#[]⟩,.string ⟨#[]⟩,.string ⟨#[]⟩,.string ⟨#[]⟩,.string ⟨#[]⟩,.string ⟨#[]⟩,.string ⟨#[]⟩,.string ⟨#[]⟩,.string ⟨#[]⟩] 25))=w13 at *
         refine wpAnyH_ready (rs:=[12]) (by kernel_rfl) (by simp) ?_;refine(AllReadyH.cons rfl (fun K hK=>?_) AllReadyH.nil);go_simp
         (have s0:=HSB.out.cell 0;simp at s0;go_at_call 47;refine(zFA w13 0 re n sg 0 1 sx (by omega) s0).mono ?_;rintro e2 w12 ⟨rfl,ho⟩;clear s0;replace HSB:=zAA (HSB.out.only ho (by simp));replace HNM:=zAA (HNM.out.only ho (by simp)))
         refine hK.out _ _ (by first|exact hHeld.trans ho|exact hHeld.trans (ho.mono (by simp))) (fun hN=>?_);clear hK K ho hHeld;have hHeld:=hN;clear hN;(try simp only[zsa,zsb,zsc,Act.put,zsd,zse,zsf])
         refine wpAnyH_ready (rs:=[14]) (by kernel_rfl) (by simp) ?_;refine(AllReadyH.cons rfl (fun K hK=>?_) AllReadyH.nil);rw[if_pos (by rfl)]
         refine wp_store_mid _ _ _ rfl _ _ #[.int .i64 4,.int .u32 0,.int .u32 (re:Nat),.int .u64 (n:Nat),.string ⟨#[]⟩,.string ⟨#[]⟩,.string ⟨#[]⟩,.string ⟨#[]⟩,.string ⟨#[]⟩,.string ⟨#[]⟩,.string sx,.string ⟨#[]⟩,.string ⟨#[]⟩] rfl rfl (zAM HNM.out _ rfl) (by kernel_rfl) (by simp[Value.oneCell']) ?_
         have HST2:=zAA (show Blk (w12.setCells _ 0 [.int .i64 4,.int .u32 0,.int .u32 (re:Nat),.int .u64 (n:Nat),.string ⟨#[]⟩,.string ⟨#[]⟩,.string ⟨#[]⟩,.string ⟨#[]⟩,.string ⟨#[]⟩,.string ⟨#[]⟩,.string sx,.string ⟨#[]⟩,.string ⟨#[]⟩]) _ 25 #[.int .i64 4,.int .u32 0,.int .u32 (re:Nat),.int .u64 (n:Nat),.string ⟨#[]⟩,.string ⟨#[]⟩,.string ⟨#[]⟩,.string ⟨#[]⟩,.string ⟨#[]⟩,.string ⟨#[]⟩,.string sx,.string ⟨#[]⟩,.string ⟨#[]⟩]from zAJ HNM.out [.int .i64 4,.int .u32 0,.int .u32 (re:Nat),.int .u64 (n:Nat),.string ⟨#[]⟩,.string ⟨#[]⟩,.string ⟨#[]⟩,.string ⟨#[]⟩,.string ⟨#[]⟩,.string ⟨#[]⟩,.string sx,.string ⟨#[]⟩,.string ⟨#[]⟩] rfl)
         refine hK.out _ _ (by exact zAL hHeld HNS.out [.int .i64 4,.int .u32 0,.int .u32 (re:Nat),.int .u64 (n:Nat),.string ⟨#[]⟩,.string ⟨#[]⟩,.string ⟨#[]⟩,.string ⟨#[]⟩,.string ⟨#[]⟩,.string ⟨#[]⟩,.string sx,.string ⟨#[]⟩,.string ⟨#[]⟩]) (fun hN=>?_)
         clear hK K hHeld;have hHeld:=hN;clear hN;(try simp only[zsa,zsb,zsc,Act.put,zsd,zse,zsf])
         refine wpAnyH_done (by kernel_rfl) ?_ _;dsimp only[Exit.then];refine hKK _ _ ?_;go_meet;exact⟨_,rfl,HNS.out,HST2,zAA hHeld⟩
       ·go_simp;have HNS:=zAA hHeld.size;refine hK.out _ _ (by exact hHeld.alloc _) (fun hN=>?_);clear hK K hHeld;have hHeld:=hN;clear hN;(try simp only[zsa,zsb,zsc,Act.put,zsd,zse,zsf])
        have HNM:=zAA (Blk.new w10 25 #[.int .i64 0,.int .u32 0,.int .u32 0,.int .u64 0,.string ⟨#[]⟩,.string ⟨#[]⟩,.string ⟨#[]⟩,.string ⟨#[]⟩,.string ⟨#[]⟩,.string ⟨#[]⟩,.string ⟨#[]⟩,.string ⟨#[]⟩,.string ⟨#[]⟩])
        generalize (w10.alloc (.cells #[.int .i64 0,.int .u32 0,.int .u32 0,.int .u64 0,.string ⟨#[]⟩,.string ⟨#[]⟩,.string ⟨#[]⟩,.string ⟨#[]⟩,.string ⟨#[]⟩,.string ⟨#[]⟩,.string ⟨#[]⟩,.string ⟨#[]⟩,.string ⟨#[]⟩] 25))=w13 at *
        refine wpAnyH_ready (rs:=[11]) (by kernel_rfl) (by simp) ?_;refine(AllReadyH.cons rfl (fun K hK=>?_) AllReadyH.nil);go_simp;refine hK.out _ _ (by exact hHeld.alloc _) (fun hN=>?_);clear hK K hHeld;have hHeld:=hN
        clear hN;(try simp only[zsa,zsb,zsc,Act.put,zsd,zse,zsf]);replace HNM:=zAA (HNM.out.alloc (.cells #[.string sx] 9));have HSB:=zAA (Blk.new w13 9 #[.string sx])
        obtain⟨sg,hsg⟩:∃g,g=w13.heap.size:=⟨_,rfl⟩;rw[<-hsg]at HSB ⊢;generalize (w13.alloc (.cells #[.string sx] 9))=w11 at *;clear hsg
        refine wpAnyH_ready (rs:=[12]) (by kernel_rfl) (by simp) ?_;refine(AllReadyH.cons rfl (fun K hK=>?_) AllReadyH.nil);go_simp
        (have s0:=HSB.out.cell 0;simp at s0;go_at_call 47;refine(zFA w11 0 re n sg 0 1 sx (by omega) s0).mono ?_;rintro e2 w12 ⟨rfl,ho⟩;clear s0;replace HNM:=zAA (HNM.out.only ho (by simp));replace HSB:=zAA (HSB.out.only ho (by simp)))
        refine hK.out _ _ (by first|exact hHeld.trans ho|exact hHeld.trans (ho.mono (by simp))) (fun hN=>?_);clear hK K ho hHeld;have hHeld:=hN;clear hN;(try simp only[zsa,zsb,zsc,Act.put,zsd,zse,zsf])
        refine wpAnyH_ready (rs:=[14]) (by kernel_rfl) (by simp) ?_;refine(AllReadyH.cons rfl (fun K hK=>?_) AllReadyH.nil);rw[if_pos (by rfl)]
        refine wp_store_mid _ _ _ rfl _ _ #[.int .i64 4,.int .u32 0,.int .u32 (re:Nat),.int .u64 (n:Nat),.string ⟨#[]⟩,.string ⟨#[]⟩,.string ⟨#[]⟩,.string ⟨#[]⟩,.string ⟨#[]⟩,.string ⟨#[]⟩,.string sx,.string ⟨#[]⟩,.string ⟨#[]⟩] rfl rfl (zAM HNM.out _ rfl) (by kernel_rfl) (by simp[Value.oneCell']) ?_
        have HST2:=zAA (show Blk (w12.setCells _ 0 [.int .i64 4,.int .u32 0,.int .u32 (re:Nat),.int .u64 (n:Nat),.string ⟨#[]⟩,.string ⟨#[]⟩,.string ⟨#[]⟩,.string ⟨#[]⟩,.string ⟨#[]⟩,.string ⟨#[]⟩,.string sx,.string ⟨#[]⟩,.string ⟨#[]⟩]) _ 25 #[.int .i64 4,.int .u32 0,.int .u32 (re:Nat),.int .u64 (n:Nat),.string ⟨#[]⟩,.string ⟨#[]⟩,.string ⟨#[]⟩,.string ⟨#[]⟩,.string ⟨#[]⟩,.string ⟨#[]⟩,.string sx,.string ⟨#[]⟩,.string ⟨#[]⟩]from zAJ HNM.out [.int .i64 4,.int .u32 0,.int .u32 (re:Nat),.int .u64 (n:Nat),.string ⟨#[]⟩,.string ⟨#[]⟩,.string ⟨#[]⟩,.string ⟨#[]⟩,.string ⟨#[]⟩,.string ⟨#[]⟩,.string sx,.string ⟨#[]⟩,.string ⟨#[]⟩] rfl)
        refine hK.out _ _ (by exact zAL hHeld HNS.out [.int .i64 4,.int .u32 0,.int .u32 (re:Nat),.int .u64 (n:Nat),.string ⟨#[]⟩,.string ⟨#[]⟩,.string ⟨#[]⟩,.string ⟨#[]⟩,.string ⟨#[]⟩,.string ⟨#[]⟩,.string sx,.string ⟨#[]⟩,.string ⟨#[]⟩]) (fun hN=>?_)
        clear hK K hHeld;have hHeld:=hN;clear hN;(try simp only[zsa,zsb,zsc,Act.put,zsd,zse,zsf])
        refine wpAnyH_done (by kernel_rfl) ?_ _;dsimp only[Exit.then];refine hKK _ _ ?_;go_meet;exact⟨_,rfl,HNS.out,HST2,zAA hHeld⟩
      ·go_simp;have HNS:=zAA hHeld.size;refine hK.out _ _ (by exact hHeld.alloc _) (fun hN=>?_);clear hK K hHeld;have hHeld:=hN;clear hN;(try simp only[zsa,zsb,zsc,Act.put,zsd,zse,zsf])
       have HNM:=zAA (Blk.new w9 25 #[.int .i64 0,.int .u32 0,.int .u32 0,.int .u64 0,.string ⟨#[]⟩,.string ⟨#[]⟩,.string ⟨#[]⟩,.string ⟨#[]⟩,.string ⟨#[]⟩,.string ⟨#[]⟩,.string ⟨#[]⟩,.string ⟨#[]⟩,.string ⟨#[]⟩])
       generalize (w9.alloc (.cells #[.int .i64 0,.int .u32 0,.int .u32 0,.int .u64 0,.string ⟨#[]⟩,.string ⟨#[]⟩,.string ⟨#[]⟩,.string ⟨#[]⟩,.string ⟨#[]⟩,.string ⟨#[]⟩,.string ⟨#[]⟩,.string ⟨#[]⟩,.string ⟨#[]⟩] 25))=w13 at *
       refine wpAnyH_ready (rs:=[10]) (by kernel_rfl) (by simp) ?_;refine(AllReadyH.cons rfl (fun K hK=>?_) AllReadyH.nil);go_simp
       (go_at_call 68;refine(KS.out _).mono ?_;rintro e2 w10 ⟨rfl,ho⟩;replace HNM:=zAA (HNM.out.only ho (by simp)))
       refine hK.out _ _ (by first|exact hHeld.trans ho|exact hHeld.trans (ho.mono (by simp))) (fun hN=>?_);clear hK K ho hHeld;have hHeld:=hN;clear hN;(try simp only[zsa,zsb,zsc,Act.put,zsd,zse,zsf])
       refine wpAnyH_ready (rs:=[11]) (by kernel_rfl) (by simp) ?_;refine(AllReadyH.cons rfl (fun K hK=>?_) AllReadyH.nil);go_simp;refine hK.out _ _ (by exact hHeld.alloc _) (fun hN=>?_);clear hK K hHeld;have hHeld:=hN
       clear hN;(try simp only[zsa,zsb,zsc,Act.put,zsd,zse,zsf]);replace HNM:=zAA (HNM.out.alloc (.cells #[.string sx] 9));have HSB:=zAA (Blk.new w10 9 #[.string sx])
       obtain⟨sg,hsg⟩:∃g,g=w10.heap.size:=⟨_,rfl⟩;rw[<-hsg]at HSB ⊢;generalize (w10.alloc (.cells #[.string sx] 9))=w11 at *;clear hsg
       refine wpAnyH_ready (rs:=[12]) (by kernel_rfl) (by simp) ?_;refine(AllReadyH.cons rfl (fun K hK=>?_) AllReadyH.nil);go_simp
       (have s0:=HSB.out.cell 0;simp at s0;go_at_call 47;refine(zFA w11 0 re n sg 0 1 sx (by omega) s0).mono ?_;rintro e2 w12 ⟨rfl,ho⟩;clear s0;replace HNM:=zAA (HNM.out.only ho (by simp));replace HSB:=zAA (HSB.out.only ho (by simp)))
       refine hK.out _ _ (by first|exact hHeld.trans ho|exact hHeld.trans (ho.mono (by simp))) (fun hN=>?_);clear hK K ho hHeld;have hHeld:=hN;clear hN;(try simp only[zsa,zsb,zsc,Act.put,zsd,zse,zsf])
       refine wpAnyH_ready (rs:=[14]) (by kernel_rfl) (by simp) ?_;refine(AllReadyH.cons rfl (fun K hK=>?_) AllReadyH.nil);rw[if_pos (by rfl)]
       refine wp_store_mid _ _ _ rfl _ _ #[.int .i64 4,.int .u32 0,.int .u32 (re:Nat),.int .u64 (n:Nat),.string ⟨#[]⟩,.string ⟨#[]⟩,.string ⟨#[]⟩,.string ⟨#[]⟩,.string ⟨#[]⟩,.string ⟨#[]⟩,.string sx,.string ⟨#[]⟩,.string ⟨#[]⟩] rfl rfl (zAM HNM.out _ rfl) (by kernel_rfl) (by simp[Value.oneCell']) ?_
       have HST2:=zAA (show Blk (w12.setCells _ 0 [.int .i64 4,.int .u32 0,.int .u32 (re:Nat),.int .u64 (n:Nat),.string ⟨#[]⟩,.string ⟨#[]⟩,.string ⟨#[]⟩,.string ⟨#[]⟩,.string ⟨#[]⟩,.string ⟨#[]⟩,.string sx,.string ⟨#[]⟩,.string ⟨#[]⟩]) _ 25 #[.int .i64 4,.int .u32 0,.int .u32 (re:Nat),.int .u64 (n:Nat),.string ⟨#[]⟩,.string ⟨#[]⟩,.string ⟨#[]⟩,.string ⟨#[]⟩,.string ⟨#[]⟩,.string ⟨#[]⟩,.string sx,.string ⟨#[]⟩,.string ⟨#[]⟩]from zAJ HNM.out [.int .i64 4,.int .u32 0,.int .u32 (re:Nat),.int .u64 (n:Nat),.string ⟨#[]⟩,.string ⟨#[]⟩,.string ⟨#[]⟩,.string ⟨#[]⟩,.string ⟨#[]⟩,.string ⟨#[]⟩,.string sx,.string ⟨#[]⟩,.string ⟨#[]⟩] rfl)
       refine hK.out _ _ (by exact zAL hHeld HNS.out [.int .i64 4,.int .u32 0,.int .u32 (re:Nat),.int .u64 (n:Nat),.string ⟨#[]⟩,.string ⟨#[]⟩,.string ⟨#[]⟩,.string ⟨#[]⟩,.string ⟨#[]⟩,.string ⟨#[]⟩,.string sx,.string ⟨#[]⟩,.string ⟨#[]⟩]) (fun hN=>?_)
       clear hK K hHeld;have hHeld:=hN;clear hN;(try simp only[zsa,zsb,zsc,Act.put,zsd,zse,zsf])
       refine wpAnyH_done (by kernel_rfl) ?_ _;dsimp only[Exit.then];refine hKK _ _ ?_;go_meet;exact⟨_,rfl,HNS.out,HST2,zAA hHeld⟩
     ·go_simp;have HNS:=zAA hHeld.size;refine hK.out _ _ (by exact hHeld.alloc _) (fun hN=>?_);clear hK K hHeld;have hHeld:=hN;clear hN;(try simp only[zsa,zsb,zsc,Act.put,zsd,zse,zsf])
      have HNM:=zAA (Blk.new wd7 25 #[.int .i64 0,.int .u32 0,.int .u32 0,.int .u64 0,.string ⟨#[]⟩,.string ⟨#[]⟩,.string ⟨#[]⟩,.string ⟨#[]⟩,.string ⟨#[]⟩,.string ⟨#[]⟩,.string ⟨#[]⟩,.string ⟨#[]⟩,.string ⟨#[]⟩])
      generalize (wd7.alloc (.cells #[.int .i64 0,.int .u32 0,.int .u32 0,.int .u64 0,.string ⟨#[]⟩,.string ⟨#[]⟩,.string ⟨#[]⟩,.string ⟨#[]⟩,.string ⟨#[]⟩,.string ⟨#[]⟩,.string ⟨#[]⟩,.string ⟨#[]⟩,.string ⟨#[]⟩] 25))=w13 at *
      refine wpAnyH_ready (rs:=[9]) (by kernel_rfl) (by simp) ?_;refine(AllReadyH.cons rfl (fun K hK=>?_) AllReadyH.nil);go_simp
      (go_at_call 73;refine(KD4.out _ (HRD.out.only (HO.out.trans hHeld) (by simp))).mono ?_;rintro e2 w9 ⟨rfl,ho⟩;replace HNM:=zAA (HNM.out.only ho (by simp)))
      refine hK.out _ _ (by first|exact hHeld.trans ho|exact hHeld.trans (ho.mono (by simp))) (fun hN=>?_);clear hK K ho hHeld;have hHeld:=hN;clear hN;(try simp only[zsa,zsb,zsc,Act.put,zsd,zse,zsf])
      refine wpAnyH_ready (rs:=[10]) (by kernel_rfl) (by simp) ?_;refine(AllReadyH.cons rfl (fun K hK=>?_) AllReadyH.nil);go_simp
      (go_at_call 68;refine(KS.out _).mono ?_;rintro e2 w10 ⟨rfl,ho⟩;replace HNM:=zAA (HNM.out.only ho (by simp)))
      refine hK.out _ _ (by first|exact hHeld.trans ho|exact hHeld.trans (ho.mono (by simp))) (fun hN=>?_);clear hK K ho hHeld;have hHeld:=hN;clear hN;(try simp only[zsa,zsb,zsc,Act.put,zsd,zse,zsf])
      refine wpAnyH_ready (rs:=[11]) (by kernel_rfl) (by simp) ?_;refine(AllReadyH.cons rfl (fun K hK=>?_) AllReadyH.nil);go_simp;refine hK.out _ _ (by exact hHeld.alloc _) (fun hN=>?_);clear hK K hHeld;have hHeld:=hN
      clear hN;(try simp only[zsa,zsb,zsc,Act.put,zsd,zse,zsf]);replace HNM:=zAA (HNM.out.alloc (.cells #[.string sx] 9));have HSB:=zAA (Blk.new w10 9 #[.string sx])
      obtain⟨sg,hsg⟩:∃g,g=w10.heap.size:=⟨_,rfl⟩;rw[<-hsg]at HSB ⊢;generalize (w10.alloc (.cells #[.string sx] 9))=w11 at *;clear hsg
      refine wpAnyH_ready (rs:=[12]) (by kernel_rfl) (by simp) ?_;refine(AllReadyH.cons rfl (fun K hK=>?_) AllReadyH.nil);go_simp
      (have s0:=HSB.out.cell 0;simp at s0;go_at_call 47;refine(zFA w11 0 re n sg 0 1 sx (by omega) s0).mono ?_;rintro e2 w12 ⟨rfl,ho⟩;clear s0;replace HNM:=zAA (HNM.out.only ho (by simp));replace HSB:=zAA (HSB.out.only ho (by simp)))
      refine hK.out _ _ (by first|exact hHeld.trans ho|exact hHeld.trans (ho.mono (by simp))) (fun hN=>?_);clear hK K ho hHeld;have hHeld:=hN;clear hN;(try simp only[zsa,zsb,zsc,Act.put,zsd,zse,zsf])
      refine wpAnyH_ready (rs:=[14]) (by kernel_rfl) (by simp) ?_;refine(AllReadyH.cons rfl (fun K hK=>?_) AllReadyH.nil);rw[if_pos (by rfl)]
      refine wp_store_mid _ _ _ rfl _ _ #[.int .i64 4,.int .u32 0,.int .u32 (re:Nat),.int .u64 (n:Nat),.string ⟨#[]⟩,.string ⟨#[]⟩,.string ⟨#[]⟩,.string ⟨#[]⟩,.string ⟨#[]⟩,.string ⟨#[]⟩,.string sx,.string ⟨#[]⟩,.string ⟨#[]⟩] rfl rfl (zAM HNM.out _ rfl) (by kernel_rfl) (by simp[Value.oneCell']) ?_
      have HST2:=zAA (show Blk (w12.setCells _ 0 [.int .i64 4,.int .u32 0,.int .u32 (re:Nat),.int .u64 (n:Nat),.string ⟨#[]⟩,.string ⟨#[]⟩,.string ⟨#[]⟩,.string ⟨#[]⟩,.string ⟨#[]⟩,.string ⟨#[]⟩,.string sx,.string ⟨#[]⟩,.string ⟨#[]⟩]) _ 25 #[.int .i64 4,.int .u32 0,.int .u32 (re:Nat),.int .u64 (n:Nat),.string ⟨#[]⟩,.string ⟨#[]⟩,.string ⟨#[]⟩,.string ⟨#[]⟩,.string ⟨#[]⟩,.string ⟨#[]⟩,.string sx,.string ⟨#[]⟩,.string ⟨#[]⟩]from zAJ HNM.out [.int .i64 4,.int .u32 0,.int .u32 (re:Nat),.int .u64 (n:Nat),.string ⟨#[]⟩,.string ⟨#[]⟩,.string ⟨#[]⟩,.string ⟨#[]⟩,.string ⟨#[]⟩,.string ⟨#[]⟩,.string sx,.string ⟨#[]⟩,.string ⟨#[]⟩] rfl)
      refine hK.out _ _ (by exact zAL hHeld HNS.out [.int .i64 4,.int .u32 0,.int .u32 (re:Nat),.int .u64 (n:Nat),.string ⟨#[]⟩,.string ⟨#[]⟩,.string ⟨#[]⟩,.string ⟨#[]⟩,.string ⟨#[]⟩,.string ⟨#[]⟩,.string sx,.string ⟨#[]⟩,.string ⟨#[]⟩]) (fun hN=>?_)
      clear hK K hHeld;have hHeld:=hN;clear hN;(try simp only[zsa,zsb,zsc,Act.put,zsd,zse,zsf])
      refine wpAnyH_done (by kernel_rfl) ?_ _;dsimp only[Exit.then];refine hKK _ _ ?_;go_meet;exact⟨_,rfl,HNS.out,HST2,zAA hHeld⟩
    case rest =>
     obtain⟨m2,rfl,hm2,HN2,HO2⟩:=hcut
     have HGM:=zAA (show w.heap.size+1+1<m2 by have:=HR2.out.lt;omega)
     replace HR0:=zAA (HR0.out.only HO2.out (by simp))
     replace HR1:=zAA (HR1.out.only HO2.out (by simp))
     replace HR2:=zAA (HR2.out.only HO2.out (by simp))
     replace HO:=zAA (HO.out.trans HO2.out)
     clear HO2 hm2 KD4 KS HRD
     rename World=>v4
     have q0:=HN2.out.cell 0;have q1:=HN2.out.cell 1;have q2:=HN2.out.cell 2;have q3:=HN2.out.cell 3;have q4:=HN2.out.cell 4;have q5:=HN2.out.cell 5;have q6:=HN2.out.cell 6;have q7:=HN2.out.cell 7;have q8:=HN2.out.cell 8;have q9:=HN2.out.cell 9;have q10:=HN2.out.cell 10;have q11:=HN2.out.cell 11;have q12:=HN2.out.cell 12;simp at q0 q1 q2 q3 q4 q5 q6 q7 q8 q9 q10 q11 q12
     have r0:=HR0.out.cell 0;have r1:=HR0.out.cell 1;have r2:=HR0.out.cell 2;have r3:=HR0.out.cell 3;have r4:=HR0.out.cell 4;have r5:=HR0.out.cell 5;have r6:=HR0.out.cell 6;have r7:=HR0.out.cell 7;simp at r0 r1 r2 r3 r4 r5 r6 r7
     have rf0:=HR0.out.frozen
     cases rr with
     | false =>
      rw[if_neg (by decide)]at HV
      go_upto_region 9 with (go_at_call 49;refine(KR.out _).mono ?_;rintro e2 x9 ⟨rfl,ho⟩;replace HN2:=zAA (HN2.out.only ho (by simp));replace HR0:=zAA (HR0.out.only ho (by simp));replace HR1:=zAA (HR1.out.only ho (by simp));replace HR2:=zAA (HR2.out.only ho (by simp));replace HO:=zAA (HO.out.trans ho);clear ho r0 r1 r2 r3 r4 r5 r6 r7 rf0;clear q0 q1 q2 q3 q4 q5 q6 q7 q8 q9 q10 q11 q12;have q0:=HN2.out.cell 0;have q1:=HN2.out.cell 1;have q2:=HN2.out.cell 2;have q3:=HN2.out.cell 3;have q4:=HN2.out.cell 4;have q5:=HN2.out.cell 5;have q6:=HN2.out.cell 6;have q7:=HN2.out.cell 7;have q8:=HN2.out.cell 8;have q9:=HN2.out.cell 9;have q10:=HN2.out.cell 10;have q11:=HN2.out.cell 11;have q12:=HN2.out.cell 12;simp at q0 q1 q2 q3 q4 q5 q6 q7 q8 q9 q10 q11 q12;have r0:=HR0.out.cell 0;have r1:=HR0.out.cell 1;have r2:=HR0.out.cell 2;have r3:=HR0.out.cell 3;have r4:=HR0.out.cell 4;have r5:=HR0.out.cell 5;have r6:=HR0.out.cell 6;have r7:=HR0.out.cell 7;simp at r0 r1 r2 r3 r4 r5 r6 r7;have rf0:=HR0.out.frozen)
      rename World=>wE
      (iterate 7 go_step);refine wpList_store_mid rfl _ _ _ rfl _ 0 #[.string s1,.string s2,.int .u32 (lo:Nat),.int .u32 (re:Nat),.bool beg,.int .i64 made,.int .u64 (n:Nat),.slice A ln cap] rfl rfl (zAM HR1.out _ rfl) (by kernel_rfl) (by simp[Value.oneCell']) ?_
      replace HR1:=zAA (show Blk (wE.setCells (w.heap.size+1) 0 [.string s1,.string s2,.int .u32 (lo:Nat),.int .u32 (re:Nat),.bool beg,.int .i64 made,.int .u64 (n:Nat),.slice A ln cap]) _ _ #[.string s1,.string s2,.int .u32 (lo:Nat),.int .u32 (re:Nat),.bool beg,.int .i64 made,.int .u64 (n:Nat),.slice A ln cap]from zAJ HR1.out [.string s1,.string s2,.int .u32 (lo:Nat),.int .u32 (re:Nat),.bool beg,.int .i64 made,.int .u64 (n:Nat),.slice A ln cap] rfl)
      replace HR2:=zAA (zCQ HR2.out (Nat.ne_of_lt (Nat.lt_succ_self _)) [.string s1,.string s2,.int .u32 (lo:Nat),.int .u32 (re:Nat),.bool beg,.int .i64 made,.int .u64 (n:Nat),.slice A ln cap])
      replace HO:=zAA (zAL HO.out (Nat.le_succ _) [.string s1,.string s2,.int .u32 (lo:Nat),.int .u32 (re:Nat),.bool beg,.int .i64 made,.int .u64 (n:Nat),.slice A ln cap])
      generalize (wE.setCells (w.heap.size+1) 0 [.string s1,.string s2,.int .u32 (lo:Nat),.int .u32 (re:Nat),.bool beg,.int .i64 made,.int .u64 (n:Nat),.slice A ln cap])=wy at *
      refine wpList_store_mid rfl _ _ _ rfl _ 0 #[.int .i64 0,.int .u32 0,.int .u32 0,.int .u64 0,.string ⟨#[]⟩,.string ⟨#[]⟩,.string ⟨#[]⟩,.string ⟨#[]⟩,.string ⟨#[]⟩,.string ⟨#[]⟩,.string ⟨#[]⟩,.string ⟨#[]⟩,.string ⟨#[]⟩] rfl rfl (zAM HR2.out _ rfl) (by kernel_rfl) (by simp[Value.oneCell']) ?_
      replace HR2:=zAA (show Blk (wy.setCells (w.heap.size+1+1) 0 [.int .i64 0,.int .u32 0,.int .u32 0,.int .u64 0,.string ⟨#[]⟩,.string ⟨#[]⟩,.string ⟨#[]⟩,.string ⟨#[]⟩,.string ⟨#[]⟩,.string ⟨#[]⟩,.string ⟨#[]⟩,.string ⟨#[]⟩,.string ⟨#[]⟩]) _ _ #[.int .i64 0,.int .u32 0,.int .u32 0,.int .u64 0,.string ⟨#[]⟩,.string ⟨#[]⟩,.string ⟨#[]⟩,.string ⟨#[]⟩,.string ⟨#[]⟩,.string ⟨#[]⟩,.string ⟨#[]⟩,.string ⟨#[]⟩,.string ⟨#[]⟩]from zAJ HR2.out [.int .i64 0,.int .u32 0,.int .u32 0,.int .u64 0,.string ⟨#[]⟩,.string ⟨#[]⟩,.string ⟨#[]⟩,.string ⟨#[]⟩,.string ⟨#[]⟩,.string ⟨#[]⟩,.string ⟨#[]⟩,.string ⟨#[]⟩,.string ⟨#[]⟩] rfl)
      replace HR1:=zAA (zCQ HR1.out (Nat.ne_of_gt (Nat.lt_succ_self _)) [.int .i64 0,.int .u32 0,.int .u32 0,.int .u64 0,.string ⟨#[]⟩,.string ⟨#[]⟩,.string ⟨#[]⟩,.string ⟨#[]⟩,.string ⟨#[]⟩,.string ⟨#[]⟩,.string ⟨#[]⟩,.string ⟨#[]⟩,.string ⟨#[]⟩])
      replace HO:=zAA (zAL HO.out (Nat.le_succ_of_le (Nat.le_succ _)) [.int .i64 0,.int .u32 0,.int .u32 0,.int .u64 0,.string ⟨#[]⟩,.string ⟨#[]⟩,.string ⟨#[]⟩,.string ⟨#[]⟩,.string ⟨#[]⟩,.string ⟨#[]⟩,.string ⟨#[]⟩,.string ⟨#[]⟩,.string ⟨#[]⟩])
      generalize (wy.setCells (w.heap.size+1+1) 0 [.int .i64 0,.int .u32 0,.int .u32 0,.int .u64 0,.string ⟨#[]⟩,.string ⟨#[]⟩,.string ⟨#[]⟩,.string ⟨#[]⟩,.string ⟨#[]⟩,.string ⟨#[]⟩,.string ⟨#[]⟩,.string ⟨#[]⟩,.string ⟨#[]⟩])=wz at *
      (repeat go_step)
      refine bodyPost_ret (zBA rfl _ _ (w.heap.size+1) (w.heap.size+1+1) 53 25 _ _ (0,0) (0,0) _ _ rfl rfl HR1.out HR2.out underlying53 rfl (by kernel_rfl) underlying25 rfl (by kernel_rfl)) rfl ?_
      exact zC7 (HV.out) HO.out
     | true =>
      have hnx:IntKind.u64.wrap ((n:Int)+1)=(n:Int)+1:=by rw[IntKind.wrap_u64];have:=HNM2.out;omega
      rw[if_pos rfl]at HV
      go_upto_region 11 with (go_at_call 49;refine(KR.out _).mono ?_;rintro e2 x9 ⟨rfl,ho⟩;replace HN2:=zAA (HN2.out.only ho (by simp));replace HR0:=zAA (HR0.out.only ho (by simp));replace HR1:=zAA (HR1.out.only ho (by simp));replace HR2:=zAA (HR2.out.only ho (by simp));replace HO:=zAA (HO.out.trans ho);clear ho r0 r1 r2 r3 r4 r5 r6 r7 rf0;clear q0 q1 q2 q3 q4 q5 q6 q7 q8 q9 q10 q11 q12;have q0:=HN2.out.cell 0;have q1:=HN2.out.cell 1;have q2:=HN2.out.cell 2;have q3:=HN2.out.cell 3;have q4:=HN2.out.cell 4;have q5:=HN2.out.cell 5;have q6:=HN2.out.cell 6;have q7:=HN2.out.cell 7;have q8:=HN2.out.cell 8;have q9:=HN2.out.cell 9;have q10:=HN2.out.cell 10;have q11:=HN2.out.cell 11;have q12:=HN2.out.cell 12;simp at q0 q1 q2 q3 q4 q5 q6 q7 q8 q9 q10 q11 q12;have r0:=HR0.out.cell 0;have r1:=HR0.out.cell 1;have r2:=HR0.out.cell 2;have r3:=HR0.out.cell 3;have r4:=HR0.out.cell 4;have r5:=HR0.out.cell 5;have r6:=HR0.out.cell 6;have r7:=HR0.out.cell 7;simp at r0 r1 r2 r3 r4 r5 r6 r7;have rf0:=HR0.out.frozen)
      rename World=>v5
      clear q0 q1 q2 q3 q4 q5 q6 q7 q8 q9 q10 q11 q12
      clear r0 r1 r2 r3 r4 r5 r6 r7 rf0
      skip
      replace HR0:=zAA (show Blk (v5.setCell ⟨w.heap.size,6,none⟩ (.int .u64 ((n:Int)+1))) _ _ #[.string s1,.string s2,.int .u32 (lo:Nat),.int .u32 (re:Nat),.bool beg,.int .i64 made,.int .u64 ((n:Int)+1),.slice A ln cap]from(by have h:=HR0.out.set_ 6 (.int .u64 ((n:Int)+1));simp only[List.setIfInBounds_toArray,List.set_cons_zero,List.set_cons_succ]at h;exact h))
      replace HR1:=zAA ((HR1.out.far (p:=⟨w.heap.size,6,none⟩) (by simp) (.int .u64 ((n:Int)+1))).drew)
      replace HR2:=zAA ((HR2.out.far (p:=⟨w.heap.size,6,none⟩) (by simp;omega) (.int .u64 ((n:Int)+1))).drew)
      replace HN2:=zAA (HN2.out.far (p:=⟨w.heap.size,6,none⟩) (by have:=HGM.out;simp;omega) (.int .u64 ((n:Int)+1)))
      replace HO:=zAA (HO.out.setCell (p:=⟨w.heap.size,6,none⟩) (.inr (Nat.le_refl _)) (.int .u64 ((n:Int)+1)))
      generalize (v5.setCell ⟨w.heap.size,6,none⟩ (.int .u64 ((n:Int)+1)))=v6 at *
      refine wp_region_held_drew (S:=fun W=>Only [w.heap.size+1,w.heap.size+1+1] v6 W) (by kernel_rfl) (by exact(Only.refl [w.heap.size+1,w.heap.size+1+1] v6).drew) (fun hHeld=>?_);generalize v6.drew=wd11 at *
      refine tk 0 ?_ (hy:=by(intro w hSw;(try dsimp only at hSw);have HRw:=HR0.out.only hSw (by simp;omega);have r0:=HRw.cell 0;have r1:=HRw.cell 1;have r2:=HRw.cell 2;have r3:=HRw.cell 3;have r4:=HRw.cell 4;have r5:=HRw.cell 5;have r6:=HRw.cell 6;have r7:=HRw.cell 7;simp at r0 r1 r2 r3 r4 r5 r6 r7;clear HRw;go_simp;try with_reducible rfl))
      refine tk 1 ?_ (hy:=by(intro w hSw;(try dsimp only at hSw);have HNw:=HN2.out.only hSw (by have:=HGM.out;simp;omega);have q0:=HNw.cell 0;have q1:=HNw.cell 1;have q2:=HNw.cell 2;have q3:=HNw.cell 3;have q4:=HNw.cell 4;have q5:=HNw.cell 5;have q6:=HNw.cell 6;have q7:=HNw.cell 7;have q8:=HNw.cell 8;have q9:=HNw.cell 9;have q10:=HNw.cell 10;have q11:=HNw.cell 11;have q12:=HNw.cell 12;simp at q0 q1 q2 q3 q4 q5 q6 q7 q8 q9 q10 q11 q12;clear HNw;go_simp;try with_reducible rfl))
      refine wpAnyH_ready (rs:=[2]) (by kernel_rfl) (by simp) ?_;refine(AllReadyH.cons rfl (fun K hK=>?_) AllReadyH.nil);rw[if_pos (by rfl)]
      refine wp_store_mid _ _ _ rfl _ _ #[.string s1,.string s2,.int .u32 (lo:Nat),.int .u32 (re:Nat),.bool beg,.int .i64 made,.int .u64 ((n:Int)+1),.slice A ln cap] rfl rfl (zAM HR1.out _ rfl) (by kernel_rfl) (by simp[Value.oneCell']) ?_
      replace HR1:=zAA (show Blk (wd11.setCells (w.heap.size+1) 0 [.string s1,.string s2,.int .u32 (lo:Nat),.int .u32 (re:Nat),.bool beg,.int .i64 made,.int .u64 ((n:Int)+1),.slice A ln cap]) _ _ #[.string s1,.string s2,.int .u32 (lo:Nat),.int .u32 (re:Nat),.bool beg,.int .i64 made,.int .u64 ((n:Int)+1),.slice A ln cap]from zAJ HR1.out [.string s1,.string s2,.int .u32 (lo:Nat),.int .u32 (re:Nat),.bool beg,.int .i64 made,.int .u64 ((n:Int)+1),.slice A ln cap] rfl)
      replace HR2:=zAA (zCQ HR2.out (Nat.ne_of_lt (Nat.lt_succ_self _)) [.string s1,.string s2,.int .u32 (lo:Nat),.int .u32 (re:Nat),.bool beg,.int .i64 made,.int .u64 ((n:Int)+1),.slice A ln cap])
      refine hK.out _ _ (by exact Only.setCells (.inl (by simp)) 0 [.string s1,.string s2,.int .u32 (lo:Nat),.int .u32 (re:Nat),.bool beg,.int .i64 made,.int .u64 ((n:Int)+1),.slice A ln cap] hHeld) (fun hN=>?_)
      clear hK K hHeld;have hHeld:=hN;clear hN;(try simp only[zsa,zsb,zsc,Act.put,zsd,zse,zsf])
      generalize (wd11.setCells (w.heap.size+1) 0 [.string s1,.string s2,.int .u32 (lo:Nat),.int .u32 (re:Nat),.bool beg,.int .i64 made,.int .u64 ((n:Int)+1),.slice A ln cap])=ws1 at *
      refine wpAnyH_ready (rs:=[3]) (by kernel_rfl) (by simp) ?_;refine(AllReadyH.cons rfl (fun K hK=>?_) AllReadyH.nil);rw[if_pos (by rfl)]
      refine wp_store_mid _ _ _ rfl _ _ #[.int .i64 4,.int .u32 0,.int .u32 (re:Nat),.int .u64 (n:Nat),.string ⟨#[]⟩,.string ⟨#[]⟩,.string ⟨#[]⟩,.string ⟨#[]⟩,.string ⟨#[]⟩,.string ⟨#[]⟩,.string sx,.string ⟨#[]⟩,.string ⟨#[]⟩] rfl rfl (zAM HR2.out _ rfl) (by kernel_rfl) (by simp[Value.oneCell']) ?_
      replace HR2:=zAA (show Blk (ws1.setCells (w.heap.size+1+1) 0 [.int .i64 4,.int .u32 0,.int .u32 (re:Nat),.int .u64 (n:Nat),.string ⟨#[]⟩,.string ⟨#[]⟩,.string ⟨#[]⟩,.string ⟨#[]⟩,.string ⟨#[]⟩,.string ⟨#[]⟩,.string sx,.string ⟨#[]⟩,.string ⟨#[]⟩]) _ _ #[.int .i64 4,.int .u32 0,.int .u32 (re:Nat),.int .u64 (n:Nat),.string ⟨#[]⟩,.string ⟨#[]⟩,.string ⟨#[]⟩,.string ⟨#[]⟩,.string ⟨#[]⟩,.string ⟨#[]⟩,.string sx,.string ⟨#[]⟩,.string ⟨#[]⟩]from zAJ HR2.out [.int .i64 4,.int .u32 0,.int .u32 (re:Nat),.int .u64 (n:Nat),.string ⟨#[]⟩,.string ⟨#[]⟩,.string ⟨#[]⟩,.string ⟨#[]⟩,.string ⟨#[]⟩,.string ⟨#[]⟩,.string sx,.string ⟨#[]⟩,.string ⟨#[]⟩] rfl)
      replace HR1:=zAA (zCQ HR1.out (Nat.ne_of_gt (Nat.lt_succ_self _)) [.int .i64 4,.int .u32 0,.int .u32 (re:Nat),.int .u64 (n:Nat),.string ⟨#[]⟩,.string ⟨#[]⟩,.string ⟨#[]⟩,.string ⟨#[]⟩,.string ⟨#[]⟩,.string ⟨#[]⟩,.string sx,.string ⟨#[]⟩,.string ⟨#[]⟩])
      refine hK.out _ _ (by exact Only.setCells (.inl (by simp)) 0 [.int .i64 4,.int .u32 0,.int .u32 (re:Nat),.int .u64 (n:Nat),.string ⟨#[]⟩,.string ⟨#[]⟩,.string ⟨#[]⟩,.string ⟨#[]⟩,.string ⟨#[]⟩,.string ⟨#[]⟩,.string sx,.string ⟨#[]⟩,.string ⟨#[]⟩] hHeld) (fun hN=>?_)
      clear hK K hHeld;have hHeld:=hN;clear hN;(try simp only[zsa,zsb,zsc,Act.put,zsd,zse,zsf])
      generalize (ws1.setCells (w.heap.size+1+1) 0 [.int .i64 4,.int .u32 0,.int .u32 (re:Nat),.int .u64 (n:Nat),.string ⟨#[]⟩,.string ⟨#[]⟩,.string ⟨#[]⟩,.string ⟨#[]⟩,.string ⟨#[]⟩,.string ⟨#[]⟩,.string sx,.string ⟨#[]⟩,.string ⟨#[]⟩])=ws2 at *
      refine tk 4 ?_;refine wpAnyH_done (by kernel_rfl) ?_ _
      (repeat go_step)
      replace HO:=zAA (((HO.out.mono (by simp)).trans hHeld).mono (S':=[]) (by intro x hx;right;simp at hx;omega))
      refine bodyPost_ret (zBA rfl _ _ (w.heap.size+1) (w.heap.size+1+1) 53 25 _ _ (0,0) (0,0) _ _ rfl rfl HR1.out HR2.out underlying53 rfl (by kernel_rfl) underlying25 rfl (by kernel_rfl)) rfl ?_
      exact zC7 HV.out HO.out HCS.out
 ·have HTV:=zAA ht
  have HV:=zAA (HV1.out ht)
  clear HV1 HV2 HV3 HV4 KD4 KS KR
  go_upto_region 2 with (first
   | (go_at_call 27;refine(zA4 _ _).mono ?_;rintro e2 x1 ⟨rfl,rfl⟩;rw[HTV.out]))
  rename World=>wE
  (iterate 7 go_step);refine wpList_store_mid rfl _ _ _ rfl _ 0 #[.string s1,.string s2,.int .u32 (lo:Nat),.int .u32 (re:Nat),.bool beg,.int .i64 made,.int .u64 (n:Nat),.slice A ln cap] rfl rfl (zAM HR1.out _ rfl) (by kernel_rfl) (by simp[Value.oneCell']) ?_
  replace HR1:=zAA (show Blk (wE.setCells (w.heap.size+1) 0 [.string s1,.string s2,.int .u32 (lo:Nat),.int .u32 (re:Nat),.bool beg,.int .i64 made,.int .u64 (n:Nat),.slice A ln cap]) _ _ #[.string s1,.string s2,.int .u32 (lo:Nat),.int .u32 (re:Nat),.bool beg,.int .i64 made,.int .u64 (n:Nat),.slice A ln cap]from zAJ HR1.out [.string s1,.string s2,.int .u32 (lo:Nat),.int .u32 (re:Nat),.bool beg,.int .i64 made,.int .u64 (n:Nat),.slice A ln cap] rfl)
  replace HR2:=zAA (zCQ HR2.out (Nat.ne_of_lt (Nat.lt_succ_self _)) [.string s1,.string s2,.int .u32 (lo:Nat),.int .u32 (re:Nat),.bool beg,.int .i64 made,.int .u64 (n:Nat),.slice A ln cap])
  replace HO:=zAA (zAL HO.out (Nat.le_succ _) [.string s1,.string s2,.int .u32 (lo:Nat),.int .u32 (re:Nat),.bool beg,.int .i64 made,.int .u64 (n:Nat),.slice A ln cap])
  generalize (wE.setCells (w.heap.size+1) 0 [.string s1,.string s2,.int .u32 (lo:Nat),.int .u32 (re:Nat),.bool beg,.int .i64 made,.int .u64 (n:Nat),.slice A ln cap])=wy at *
  refine wpList_store_mid rfl _ _ _ rfl _ 0 #[.int .i64 0,.int .u32 0,.int .u32 0,.int .u64 0,.string ⟨#[]⟩,.string ⟨#[]⟩,.string ⟨#[]⟩,.string ⟨#[]⟩,.string ⟨#[]⟩,.string ⟨#[]⟩,.string ⟨#[]⟩,.string ⟨#[]⟩,.string ⟨#[]⟩] rfl rfl (zAM HR2.out _ rfl) (by kernel_rfl) (by simp[Value.oneCell']) ?_
  replace HR2:=zAA (show Blk (wy.setCells (w.heap.size+1+1) 0 [.int .i64 0,.int .u32 0,.int .u32 0,.int .u64 0,.string ⟨#[]⟩,.string ⟨#[]⟩,.string ⟨#[]⟩,.string ⟨#[]⟩,.string ⟨#[]⟩,.string ⟨#[]⟩,.string ⟨#[]⟩,.string ⟨#[]⟩,.string ⟨#[]⟩]) _ _ #[.int .i64 0,.int .u32 0,.int .u32 0,.int .u64 0,.string ⟨#[]⟩,.string ⟨#[]⟩,.string ⟨#[]⟩,.string ⟨#[]⟩,.string ⟨#[]⟩,.string ⟨#[]⟩,.string ⟨#[]⟩,.string ⟨#[]⟩,.string ⟨#[]⟩]from zAJ HR2.out [.int .i64 0,.int .u32 0,.int .u32 0,.int .u64 0,.string ⟨#[]⟩,.string ⟨#[]⟩,.string ⟨#[]⟩,.string ⟨#[]⟩,.string ⟨#[]⟩,.string ⟨#[]⟩,.string ⟨#[]⟩,.string ⟨#[]⟩,.string ⟨#[]⟩] rfl)
  replace HR1:=zAA (zCQ HR1.out (Nat.ne_of_gt (Nat.lt_succ_self _)) [.int .i64 0,.int .u32 0,.int .u32 0,.int .u64 0,.string ⟨#[]⟩,.string ⟨#[]⟩,.string ⟨#[]⟩,.string ⟨#[]⟩,.string ⟨#[]⟩,.string ⟨#[]⟩,.string ⟨#[]⟩,.string ⟨#[]⟩,.string ⟨#[]⟩])
  replace HO:=zAA (zAL HO.out (Nat.le_succ_of_le (Nat.le_succ _)) [.int .i64 0,.int .u32 0,.int .u32 0,.int .u64 0,.string ⟨#[]⟩,.string ⟨#[]⟩,.string ⟨#[]⟩,.string ⟨#[]⟩,.string ⟨#[]⟩,.string ⟨#[]⟩,.string ⟨#[]⟩,.string ⟨#[]⟩,.string ⟨#[]⟩])
  generalize (wy.setCells (w.heap.size+1+1) 0 [.int .i64 0,.int .u32 0,.int .u32 0,.int .u64 0,.string ⟨#[]⟩,.string ⟨#[]⟩,.string ⟨#[]⟩,.string ⟨#[]⟩,.string ⟨#[]⟩,.string ⟨#[]⟩,.string ⟨#[]⟩,.string ⟨#[]⟩,.string ⟨#[]⟩])=wz at *
  (repeat go_step)
  refine bodyPost_ret (zBA rfl _ _ (w.heap.size+1) (w.heap.size+1+1) 53 25 _ _ (0,0) (0,0) _ _ rfl rfl HR1.out HR2.out underlying53 rfl (by kernel_rfl) underlying25 rfl (by kernel_rfl)) rfl ?_
  exact zC7 (HV.out) HO.out
end
end Go.Proofs.YtfipdjlalfpbnaaGreatDoor
