/-
  Walks and plain words (texts Ph6). No condition beyond those that each theorem states.
-/
import Derived.Test.YtfipdjlalfpbnaaGreatDoorB10
namespace Go.Proofs.YtfipdjlalfpbnaaGreatDoor
section
open Go.Proofs.Tryz
set_option maxHeartbeats 12800000
set_option maxRecDepth 1000000
open Go.RowKit Go.Deep

theorem zKD(w:World)(g1 c1 g2 c2 R1 R2 B:Nat)(s1 s2:ByteArray)(lo re:Nat)(beg:Bool)(made:Int)(gl o ln cap:Nat)(l:List Pac)(hrd:RdS 17 acC w [] (.slice (some ⟨gl,o,none⟩) ln cap) l)(hln:ln=l.length)(cc:Nat->Value)(u12 u21 u22 u23 u24 u25 u26 u27 u28 u29 u30 u31 u32 u33 u34 u35 u36 u37 u38 u142 u143 u144 u145 u146 u147 u148 u149 u150 u151 u152 u153 u154 u155 u156 u157 u158 u159 u160 u161 u162 u163 u164 u165 u166 u167 u168 u169 u170 u171 u172 u173 u174 u175 u176 u177 u178 u179 u180 u181 u182 u183 u184 u185 u186 u187 u188 u189 u190 u191 u192 u193 u194 u195 u196 u197 u198 u199 u200 u201 u202 u203 u204 u205 u206 u207 u208 u209 u210 u211 u212 u213 u214 u215 u216 u217 u218 u219 u220 u221 u222 u223 u224 u225 u226 u227 u228 u229 u230 u231 u232 u233 u234 u235 u236 u237 u238 u239 u240 u241 u242 u243 u244 u245 u246 u247 u248 u249 u250 u251 u252 u253 u254 u255 u256 u257 u258 u259 u260 u261 u262 u263 u264 u265 u266 u267 u268 u269 u270 u271 u272 u273 u274 u275 u276 u277 u278 u279 u280 u281 u282 u283 u284 u285 u286 u287 u288 u289 u290 u291 u292 u293 u294 u295 u296 u297 u298 u299 u300 u301 u302 u303 u304:Value)(i n:Nat)(L:List Nat)(sent:List Mg)(sv:Value)(wr:World)(hpi:PaI w g1 c1 g2 c2 R1 R2 B s1 s2 lo re beg made i n L sent sv wr)(hi:i<ln)(h40:ln<=40)(ak:Nat)(now:Int)(Ab:Option Addr)(cb:Nat)(bs:List UInt8)(an:Nat)(k:Int)(sn r cq:Nat)(x4 x5 x6 x7 x8 x9 x10 x11 x12:ByteArray)(bl:Nat)(hbl:bl=bs.length)(ha:l[i]?=some ⟨ak,now,.slice Ab bl cb,bs,an,⟨k,sn,r,cq,x4,x5,x6,x7,x8,x9,x10,x11,x12⟩⟩)(hfa:zBm w ⟨ak,now,.slice Ab bl cb,bs,an,⟨k,sn,r,cq,x4,x5,x6,x7,x8,x9,x10,x11,x12⟩⟩)(hh:¬100<bl)(hv:zCL ⟨k,sn,r,cq,x4,x5,x6,x7,x8,x9,x10,x11,x12⟩ 600=false)(hm1:0<=made)(hm2:made<=1125899906842624)(h1:s1.size<=maxLen)(h2:s2.size<=maxLen)(hlo:lo<4294967296)(hre:re<4294967296)(hk:ak=1)(hcase:(zAv re made n s1 now bs).2.1=0∧(zAv re made n s1 now bs).2.2=n+1∧(zAv re made n s1 now bs).1.c=n∧(zAv re made n s1 now bs).1.Fine∧n+1<18446744073709551616)(Q:Exit->Act->World->Prop):Code.wp prog zDL (Exit.then (PWI w g1 c1 g2 c2 R1 R2 B s1 s2 lo re beg made (.slice (some ⟨gl,o,none⟩) ln cap) cc (i+1)) Q) (FRP g1 g2 R1 R2 (.slice (some ⟨gl,o,none⟩) ln cap) sv (i) cc u12 u21 u22 u23 u24 u25 u26 u27 u28 u29 u30 u31 u32 u33 u34 u35 u36 u37 u38 u142 u143 u144 u145 u146 u147 u148 u149 u150 u151 u152 u153 u154 u155 u156 u157 u158 u159 u160 u161 u162 u163 u164 u165 u166 u167 u168 u169 u170 u171 u172 u173 u174 u175 u176 u177 u178 u179 u180 u181 u182 u183 u184 u185 u186 u187 u188 u189 u190 u191 u192 u193 u194 u195 u196 u197 u198 u199 u200 u201 u202 u203 u204 u205 u206 u207 u208 u209 u210 u211 u212 u213 u214 u215 u216 u217 u218 u219 u220 u221 u222 u223 u224 u225 u226 u227 u228 u229 u230 u231 u232 u233 u234 u235 u236 u237 u238 u239 u240 u241 u242 u243 u244 u245 u246 u247 u248 u249 u250 u251 u252 u253 u254 u255 u256 u257 u258 u259 u260 u261 u262 u263 u264 u265 u266 u267 u268 u269 u270 u271 u272 u273 u274 u275 u276 u277 u278 u279 u280 u281 u282 u283 u284 u285 u286 u287 u288 u289 u290 u291 u292 u293 u294 u295 u296 u297 u298 u299 u300 u301 u302 u303 u304) wr:=by
 have hltI:(i:Int)<ln:=by omega
 have HWI:=zAA (show wrap64 ((i:Int)+1)=(i:Int)+1 by unfold wrap64;omega)
 have hcs:=zB2 ha (hrd.only hpi.on (by simp))
 simp only at hcs
 obtain⟨a0,a1,a2,a3,a4,a5,a6,a7,a8,a9,a10,a11,a12,a13,a14,a15,a16⟩:=hcs
 have HST:=zAA hpi
 obtain⟨KA,kl,kc,hpm⟩:=hpi.mem
 have HPM:=zAA hpm
 have HHV:=zAA (fun W=>zBK ⟨k,sn,r,cq,x4,x5,x6,x7,x8,x9,x10,x11,x12⟩ 600 W)
 unfold zAn Mg.cells at HHV
 simp only at HHV
 rw[hv]at HHV
 obtain⟨hbr,hmF,han⟩:=hfa
 simp only at hbr hmF han
 have HBR:=zAA hbr
 have HMF:=zAA hmF
 have HAN:=zAA han
 have HE1:=zAA (fun(nn:Nat) W h=>zAm W g1 c1 s1 s2 lo re beg made nn none 0 0 now h hm1 hm2)
 have HE2:=zAA (fun A a b W h=>zAm W g2 c2 s2 s1 re lo (!beg) made 0 A a b now h hm1 hm2)
 unfold zAn at HE1 HE2
 simp only[show((0:Nat):Int)=0 from rfl]at HE2
 have e0:((ak:Int)==0)=false:=by rw[beq_eq_false_iff_ne];omega
 have e1:((ak:Int)==1)=true:=by rw[beq_iff_eq];omega
 clear hk
 have HS40:=zAA (show sent.length<=40 from Nat.le_trans hpi.sl (Nat.le_trans (Nat.le_of_lt hi) h40))
 have hb100:bs.length<=100000:=by omega
 have HSE:=zAA (fun W h hr ht=>zDq W g1 c1 s1 s2 lo re beg made n h now hm1 hm2 Ab cb bs h1 hr ht hre)
 have HSR:=zAA (fun W hr=>zDr W s1 s2 lo re beg made n none 0 0 now Ab cb bs hm1 hm2 h1 hb100 hr hre hpi.n2)
 rw[<-hbl]at HSE HSR
 unfold zBY at HSE
 unfold zCb at HSR
 obtain⟨⟨rm,rc,n2⟩,hres⟩:∃q,zAv re made n s1 now bs=q:=⟨_,rfl⟩
 rw[hres]at HSE HSR hcase
 simp only at HSE HSR hcase
 clear hres hb100
 obtain⟨hrc,hn2,hcn,hfi,hmx⟩:=hcase
 subst hrc
 obtain⟨rk,rs,rr,rq,z4,z5,z6,z7,z8,z9,z10,z11,z12⟩:=rm
 have HNE:=zAA (fun W=>zFa ⟨rk,rs,rr,rq,z4,z5,z6,z7,z8,z9,z10,z11,z12⟩ ⟨rk,rs,rr,rq,z4,z5,z6,z7,z8,z9,z10,z11,z12⟩ W)
 rw[(zEW _ _).2 rfl]at HNE
 unfold Mg.cells at HSE HSR HNE
 simp only at HSE HSR HNE
 have HFI:=zAA hfi
 have HCN:=zAA hcn
 have HN2:=zAA hn2
 have HMX:=zAA hmx
 clear hfi hcn hn2 hmx
 simp only at HCN
 have q100:¬(100:Int)<bl:=by omega
 clear ha hbr hmF han hrd hpi hpm hbl hln hh hv hm1 hm2 h1 h2 hlo hre h40
 unfold FRP
 conv=>arg 2;whnf
 go_upto_region 17 with fail
 (iterate 11 go_step)
 have hrg:=zBa a0 a1 a2 a3 a4 a5 a6 a7 a8 a9 a10 a11 a12 a13 a14 a15 a16
 refine wp_load_mid 57 (.tmp 150) rfl gl (o+i*17) rfl _ _ hrg underlying57 rfl (by kernel_rfl) ?_
 clear hrg
 clear a0 a1 a2 a3 a4 a5 a6 a7 a8 a9 a10 a11 a12 a13 a14 a15 a16
 (iterate 5 go_step)
 have HGL:=zAA (And.intro (Blk.lt HPM.out.p) (And.intro (WinSet.lt HPM.out.qw) (And.intro (Blk.lt HPM.out.m) (Blk.lt HPM.out.k))))
 have HA0:=zAA (Blk.new wr 57 #[.int .u8 0,.int .i64 0,.slice none 0 0,.int .u64 0,.int .i64 0,.int .u32 0,.int .u32 0,.int .u64 0,.string ⟨#[]⟩,.string ⟨#[]⟩,.string ⟨#[]⟩,.string ⟨#[]⟩,.string ⟨#[]⟩,.string ⟨#[]⟩,.string ⟨#[]⟩,.string ⟨#[]⟩,.string ⟨#[]⟩])
 refine wp_store_mid 57 (.tmp 21) (.tmp 151) rfl wr.heap.size 0 #[.int .u8 (ak:Nat),.int .i64 now,.slice Ab bl cb,.int .u64 (an:Nat),.int .i64 k,.int .u32 (sn:Nat),.int .u32 (r:Nat),.int .u64 (cq:Nat),.string x4,.string x5,.string x6,.string x7,.string x8,.string x9,.string x10,.string x11,.string x12] rfl rfl (zAM HA0.out 17 rfl) (by kernel_rfl) (by simp[Value.oneCell']) ?_
 have HA:=zAA (show Blk ((wr.alloc (.cells #[.int .u8 0,.int .i64 0,.slice none 0 0,.int .u64 0,.int .i64 0,.int .u32 0,.int .u32 0,.int .u64 0,.string ⟨#[]⟩,.string ⟨#[]⟩,.string ⟨#[]⟩,.string ⟨#[]⟩,.string ⟨#[]⟩,.string ⟨#[]⟩,.string ⟨#[]⟩,.string ⟨#[]⟩,.string ⟨#[]⟩] 57)).setCells wr.heap.size 0 [.int .u8 (ak:Nat),.int .i64 now,.slice Ab bl cb,.int .u64 (an:Nat),.int .i64 k,.int .u32 (sn:Nat),.int .u32 (r:Nat),.int .u64 (cq:Nat),.string x4,.string x5,.string x6,.string x7,.string x8,.string x9,.string x10,.string x11,.string x12]) wr.heap.size 57 #[.int .u8 (ak:Nat),.int .i64 now,.slice Ab bl cb,.int .u64 (an:Nat),.int .i64 k,.int .u32 (sn:Nat),.int .u32 (r:Nat),.int .u64 (cq:Nat),.string x4,.string x5,.string x6,.string x7,.string x8,.string x9,.string x10,.string x11,.string x12]from zAJ HA0.out [.int .u8 (ak:Nat),.int .i64 now,.slice Ab bl cb,.int .u64 (an:Nat),.int .i64 k,.int .u32 (sn:Nat),.int .u32 (r:Nat),.int .u64 (cq:Nat),.string x4,.string x5,.string x6,.string x7,.string x8,.string x9,.string x10,.string x11,.string x12] rfl)
 have hoa:=zAL ((Only.refl [] wr).alloc (.cells #[.int .u8 0,.int .i64 0,.slice none 0 0,.int .u64 0,.int .i64 0,.int .u32 0,.int .u32 0,.int .u64 0,.string ⟨#[]⟩,.string ⟨#[]⟩,.string ⟨#[]⟩,.string ⟨#[]⟩,.string ⟨#[]⟩,.string ⟨#[]⟩,.string ⟨#[]⟩,.string ⟨#[]⟩,.string ⟨#[]⟩] 57)) (Nat.le_refl _) [.int .u8 (ak:Nat),.int .i64 now,.slice Ab bl cb,.int .u64 (an:Nat),.int .i64 k,.int .u32 (sn:Nat),.int .u32 (r:Nat),.int .u64 (cq:Nat),.string x4,.string x5,.string x6,.string x7,.string x8,.string x9,.string x10,.string x11,.string x12]
 replace HPM:=zAA (HPM.out.only hoa)
 clear hoa HA0
 obtain⟨G,hG⟩:∃q,q=wr.heap.size:=⟨_,rfl⟩
 rw[<-hG]at HA HPM HGL ⊢
 generalize ((wr.alloc (.cells #[.int .u8 0,.int .i64 0,.slice none 0 0,.int .u64 0,.int .i64 0,.int .u32 0,.int .u32 0,.int .u64 0,.string ⟨#[]⟩,.string ⟨#[]⟩,.string ⟨#[]⟩,.string ⟨#[]⟩,.string ⟨#[]⟩,.string ⟨#[]⟩,.string ⟨#[]⟩,.string ⟨#[]⟩,.string ⟨#[]⟩] 57)).setCells G 0 [.int .u8 (ak:Nat),.int .i64 now,.slice Ab bl cb,.int .u64 (an:Nat),.int .i64 k,.int .u32 (sn:Nat),.int .u32 (r:Nat),.int .u64 (cq:Nat),.string x4,.string x5,.string x6,.string x7,.string x8,.string x9,.string x10,.string x11,.string x12])=x0 at *
 clear hG
 go_upto_region 18 with fail
 obtain⟨a0,a1,a2,a3,a4,a5,a6,a7,a8,a9,a10,a11,a12,a13,a14,a15,a16⟩:=zAH HA.out
 obtain⟨m0,m1,m2,m3,m4,m5,m6,m7⟩:=zAB HPM.out.m
 obtain⟨k0,k1,k2,k3,k4,k5,k6,k7⟩:=zAB HPM.out.k
 go_upto_region 23 with (first
  | (go_at_call 28;refine(HHV.out _).mono ?_;rintro e2 x1 ⟨rfl,ho⟩;replace HA:=zAA (HA.out.only ho (by simp));replace HPM:=zAA (HPM.out.only ho);clear ho;clear a0 a1 a2 a3 a4 a5 a6 a7 a8 a9 a10 a11 a12 a13 a14 a15 a16 m0 m1 m2 m3 m4 m5 m6 m7 k0 k1 k2 k3 k4 k5 k6 k7;obtain⟨a0,a1,a2,a3,a4,a5,a6,a7,a8,a9,a10,a11,a12,a13,a14,a15,a16⟩:=zAH HA.out;obtain⟨m0,m1,m2,m3,m4,m5,m6,m7⟩:=zAB HPM.out.m;obtain⟨k0,k1,k2,k3,k4,k5,k6,k7⟩:=zAB HPM.out.k)
  | (go_at_call 29;(with_reducible refine(HSE.out _ HPM.out.p (HBR.out.only HPM.out.on (by simp)) (HST.out.tw.only HPM.out.on (by simp))).mono ?_);rintro e2 y3 ⟨rfl,hp,ho⟩;replace HA:=zAA (HA.out.only ho (by have h:=HGL.out;simp;omega));replace HPM:=zAA (HPM.out.sealed hp ho);clear hp ho;clear a0 a1 a2 a3 a4 a5 a6 a7 a8 a9 a10 a11 a12 a13 a14 a15 a16 m0 m1 m2 m3 m4 m5 m6 m7 k0 k1 k2 k3 k4 k5 k6 k7;obtain⟨a0,a1,a2,a3,a4,a5,a6,a7,a8,a9,a10,a11,a12,a13,a14,a15,a16⟩:=zAH HA.out;obtain⟨m0,m1,m2,m3,m4,m5,m6,m7⟩:=zAB HPM.out.m;obtain⟨k0,k1,k2,k3,k4,k5,k6,k7⟩:=zAB HPM.out.k))
 have HGY:=zAA (Blk.lt HPM.out.m)
 have HX:=zAA (Blk.new y3 25 #[.int .i64 rk,.int .u32 (rs:Nat),.int .u32 (rr:Nat),.int .u64 (rq:Nat),.string z4,.string z5,.string z6,.string z7,.string z8,.string z9,.string z10,.string z11,.string z12])
 have hoa:=(Only.refl [] y3).alloc (.cells #[.int .i64 rk,.int .u32 (rs:Nat),.int .u32 (rr:Nat),.int .u64 (rq:Nat),.string z4,.string z5,.string z6,.string z7,.string z8,.string z9,.string z10,.string z11,.string z12] 25)
 replace HA:=zAA (HA.out.only hoa (by simp))
 replace HPM:=zAA (HPM.out.only hoa)
 clear hoa
 obtain⟨GX,hGX⟩:∃q,q=y3.heap.size:=⟨_,rfl⟩
 rw[<-hGX]at HX HGY ⊢
 clear hGX
 generalize (y3.alloc (.cells #[.int .i64 rk,.int .u32 (rs:Nat),.int .u32 (rr:Nat),.int .u64 (rq:Nat),.string z4,.string z5,.string z6,.string z7,.string z8,.string z9,.string z10,.string z11,.string z12] 25))=v3 at *
 clear a0 a1 a2 a3 a4 a5 a6 a7 a8 a9 a10 a11 a12 a13 a14 a15 a16 m0 m1 m2 m3 m4 m5 m6 m7 k0 k1 k2 k3 k4 k5 k6 k7;obtain⟨a0,a1,a2,a3,a4,a5,a6,a7,a8,a9,a10,a11,a12,a13,a14,a15,a16⟩:=zAH HA.out;obtain⟨m0,m1,m2,m3,m4,m5,m6,m7⟩:=zAB HPM.out.m;obtain⟨k0,k1,k2,k3,k4,k5,k6,k7⟩:=zAB HPM.out.k
 go_upto_region 24 with (first
  | (go_at_call 30;(with_reducible refine(HSR.out _ (HBR.out.only HPM.out.on (by simp))).mono ?_);rintro e2 y4 ⟨rfl,ho⟩;replace HX:=zAA (HX.out.only ho (by simp));replace HA:=zAA (HA.out.only ho (by simp));replace HPM:=zAA (HPM.out.only ho);clear ho;clear a0 a1 a2 a3 a4 a5 a6 a7 a8 a9 a10 a11 a12 a13 a14 a15 a16 m0 m1 m2 m3 m4 m5 m6 m7 k0 k1 k2 k3 k4 k5 k6 k7;obtain⟨a0,a1,a2,a3,a4,a5,a6,a7,a8,a9,a10,a11,a12,a13,a14,a15,a16⟩:=zAH HA.out;obtain⟨m0,m1,m2,m3,m4,m5,m6,m7⟩:=zAB HPM.out.m;obtain⟨k0,k1,k2,k3,k4,k5,k6,k7⟩:=zAB HPM.out.k))
 have HN:=zAA ((Blk.new y4 53 #[.string s1,.string s2,.int .u32 (lo:Nat),.int .u32 (re:Nat),.bool beg,.int .i64 made,.int .u64 (n2:Nat),.slice none 0 0]).alloc (.cells #[.int .i64 rk,.int .u32 (rs:Nat),.int .u32 (rr:Nat),.int .u64 (rq:Nat),.string z4,.string z5,.string z6,.string z7,.string z8,.string z9,.string z10,.string z11,.string z12] 25))
 have HW:=zAA (Blk.new (y4.alloc (.cells #[.string s1,.string s2,.int .u32 (lo:Nat),.int .u32 (re:Nat),.bool beg,.int .i64 made,.int .u64 (n2:Nat),.slice none 0 0] 53)) 25 #[.int .i64 rk,.int .u32 (rs:Nat),.int .u32 (rr:Nat),.int .u64 (rq:Nat),.string z4,.string z5,.string z6,.string z7,.string z8,.string z9,.string z10,.string z11,.string z12])
 rw[World.size_alloc]at HW
 have hoa:=((Only.refl [] y4).alloc (.cells #[.string s1,.string s2,.int .u32 (lo:Nat),.int .u32 (re:Nat),.bool beg,.int .i64 made,.int .u64 (n2:Nat),.slice none 0 0] 53)).alloc (.cells #[.int .i64 rk,.int .u32 (rs:Nat),.int .u32 (rr:Nat),.int .u64 (rq:Nat),.string z4,.string z5,.string z6,.string z7,.string z8,.string z9,.string z10,.string z11,.string z12] 25)
 replace HA:=zAA (HA.out.only hoa (by simp))
 replace HX:=zAA (HX.out.only hoa (by simp))
 replace HPM:=zAA (HPM.out.only hoa)
 clear hoa
 obtain⟨GN,hGN⟩:∃q,q=y4.heap.size:=⟨_,rfl⟩
 rw[<-hGN]at HN HW ⊢
 clear hGN
 generalize ((y4.alloc (.cells #[.string s1,.string s2,.int .u32 (lo:Nat),.int .u32 (re:Nat),.bool beg,.int .i64 made,.int .u64 (n2:Nat),.slice none 0 0] 53)).alloc (.cells #[.int .i64 rk,.int .u32 (rs:Nat),.int .u32 (rr:Nat),.int .u64 (rq:Nat),.string z4,.string z5,.string z6,.string z7,.string z8,.string z9,.string z10,.string z11,.string z12] 25))=v4 at *
 clear a0 a1 a2 a3 a4 a5 a6 a7 a8 a9 a10 a11 a12 a13 a14 a15 a16 m0 m1 m2 m3 m4 m5 m6 m7 k0 k1 k2 k3 k4 k5 k6 k7;obtain⟨a0,a1,a2,a3,a4,a5,a6,a7,a8,a9,a10,a11,a12,a13,a14,a15,a16⟩:=zAH HA.out;obtain⟨m0,m1,m2,m3,m4,m5,m6,m7⟩:=zAB HPM.out.m;obtain⟨k0,k1,k2,k3,k4,k5,k6,k7⟩:=zAB HPM.out.k
 obtain⟨x_0,x_1,x_2,x_3,x_4,x_5,x_6,x_7,x_8,x_9,x_10,x_11,x_12⟩:=zBZ HX.out
 obtain⟨w_0,w_1,w_2,w_3,w_4,w_5,w_6,w_7,w_8,w_9,w_10,w_11,w_12⟩:=zBZ HW.out
 obtain⟨n_0,n_1,n_2,n_3,n_4,n_5,n_6,n_7⟩:=zAB HN.out
 go_upto_region 26 with fail
 clear x_0 x_1 x_2 x_3 x_4 x_5 x_6 x_7 x_8 x_9 x_10 x_11 x_12
 clear w_0 w_1 w_2 w_3 w_4 w_5 w_6 w_7 w_8 w_9 w_10 w_11 w_12
 (iterate 4 go_step)
 refine wpList_store_mid rfl _ _ _ rfl _ 0 #[.string s1,.string s2,.int .u32 (lo:Nat),.int .u32 (re:Nat),.bool beg,.int .i64 made,.int .u64 (n2:Nat),.slice none 0 0] rfl rfl (zAM HPM.out.m _ rfl) (by kernel_rfl) (by simp[Value.oneCell']) ?_
 have hso:=zAA (Only.setCells (S:=[R1]) (g:=R1) (.inl (by simp)) 0 [.string s1,.string s2,.int .u32 (lo:Nat),.int .u32 (re:Nat),.bool beg,.int .i64 made,.int .u64 (n2:Nat),.slice none 0 0] (Only.refl _ v4))
 have hsb:=zAA (show Blk (v4.setCells R1 0 [.string s1,.string s2,.int .u32 (lo:Nat),.int .u32 (re:Nat),.bool beg,.int .i64 made,.int .u64 (n2:Nat),.slice none 0 0]) R1 _ #[.string s1,.string s2,.int .u32 (lo:Nat),.int .u32 (re:Nat),.bool beg,.int .i64 made,.int .u64 (n2:Nat),.slice none 0 0]from zAJ HPM.out.m [.string s1,.string s2,.int .u32 (lo:Nat),.int .u32 (re:Nat),.bool beg,.int .i64 made,.int .u64 (n2:Nat),.slice none 0 0] rfl)
 replace HA:=zAA (HA.out.only hso.out (by have h:=HGL.out;simp;omega))
 replace HX:=zAA (HX.out.only hso.out (by have h:=HGY.out;simp;omega))
 replace HPM:=zAA (HPM.out.setM hsb.out hso.out)
 clear hso hsb
 generalize (v4.setCells R1 0 [.string s1,.string s2,.int .u32 (lo:Nat),.int .u32 (re:Nat),.bool beg,.int .i64 made,.int .u64 (n2:Nat),.slice none 0 0])=v5 at *
 clear a0 a1 a2 a3 a4 a5 a6 a7 a8 a9 a10 a11 a12 a13 a14 a15 a16 m0 m1 m2 m3 m4 m5 m6 m7 k0 k1 k2 k3 k4 k5 k6 k7;obtain⟨a0,a1,a2,a3,a4,a5,a6,a7,a8,a9,a10,a11,a12,a13,a14,a15,a16⟩:=zAH HA.out;obtain⟨m0,m1,m2,m3,m4,m5,m6,m7⟩:=zAB HPM.out.m;obtain⟨k0,k1,k2,k3,k4,k5,k6,k7⟩:=zAB HPM.out.k
 obtain⟨i0,hi,hz0,hz1,hz2⟩:=info_parts zJ8
 obtain⟨x_0,x_1,x_2,x_3,x_4,x_5,x_6,x_7,x_8,x_9,x_10,x_11,x_12⟩:=zBZ HX.out
 have HPM9:=zAA (HPM.out.only ((Only.refl [] v5).alloc (.cells #[.int .i64 rk,.int .u32 (rs:Nat),.int .u32 (rr:Nat),.int .u64 (rq:Nat),.string z4,.string z5,.string z6,.string z7,.string z8,.string z9,.string z10,.string z11,.string z12] 25)))
 have HA9:=zAA (HA.out.alloc (.cells #[.int .i64 rk,.int .u32 (rs:Nat),.int .u32 (rr:Nat),.int .u64 (rq:Nat),.string z4,.string z5,.string z6,.string z7,.string z8,.string z9,.string z10,.string z11,.string z12] 25))
 go_wp2_with (first
  | (at_builtin;refine zAR _ rfl (.tmp 196) (.tmp 198) 54 rfl B 25 i0 (.agg #[.int .i64 0,.int .u32 0,.int .u32 0,.int .u64 0,.string ByteArray.empty,.string ByteArray.empty,.string ByteArray.empty,.string ByteArray.empty,.string ByteArray.empty,.string ByteArray.empty,.string ByteArray.empty,.string ByteArray.empty,.string ByteArray.empty]) 13 168 underlying54 hi hz0 hz1 hz2 rfl (by decide) sv sent.length _ rfl HPM9.out.own (v5.heap.size+1) (some ⟨v5.heap.size,0,none⟩) 1 1 #[.int .i64 rk,.int .u32 (rs:Nat),.int .u32 (rr:Nat),.int .u64 (rq:Nat),.string z4,.string z5,.string z6,.string z7,.string z8,.string z9,.string z10,.string z11,.string z12].toList rfl (zHp v5 25 #[.int .i64 rk,.int .u32 (rs:Nat),.int .u32 (rr:Nat),.int .u64 (rq:Nat),.string z4,.string z5,.string z6,.string z7,.string z8,.string z9,.string z10,.string z11,.string z12] _ rfl (Nat.lt_succ_self _)) (by simp[Value.oneCell']) (by have:=HS40.out;unfold maxLen;omega) (by have:=HS40.out;omega) HPM9.out.hB ?_;intro sv2 y9 hown1 hg1 hv1;replace HA:=zAA (HA9.out.grown hg1 (zCZ HPM9.out.own HA9.out (by decide)));replace HPM:=zAA (HPM9.out.appended (sent':=sent++[⟨rk,rs,rr,rq,z4,z5,z6,z7,z8,z9,z10,z11,z12⟩]) (zEr ⟨rk,rs,rr,rq,z4,z5,z6,z7,z8,z9,z10,z11,z12⟩ hown1) hg1 hv1);clear hown1 hg1 hv1;clear a0 a1 a2 a3 a4 a5 a6 a7 a8 a9 a10 a11 a12 a13 a14 a15 a16 m0 m1 m2 m3 m4 m5 m6 m7 k0 k1 k2 k3 k4 k5 k6 k7;obtain⟨a0,a1,a2,a3,a4,a5,a6,a7,a8,a9,a10,a11,a12,a13,a14,a15,a16⟩:=zAH HA.out;obtain⟨m0,m1,m2,m3,m4,m5,m6,m7⟩:=zAB HPM.out.m;obtain⟨k0,k1,k2,k3,k4,k5,k6,k7⟩:=zAB HPM.out.k )
  | (go_at_call 35;(with_reducible refine(HE1.out n2 _ HPM.out.p).mono ?_);rintro e2 y1 ⟨rfl,ho⟩;replace HA:=zAA (HA.out.only ho (by simp));replace HPM:=zAA (HPM.out.only ho);clear ho;clear a0 a1 a2 a3 a4 a5 a6 a7 a8 a9 a10 a11 a12 a13 a14 a15 a16 m0 m1 m2 m3 m4 m5 m6 m7 k0 k1 k2 k3 k4 k5 k6 k7;obtain⟨a0,a1,a2,a3,a4,a5,a6,a7,a8,a9,a10,a11,a12,a13,a14,a15,a16⟩:=zAH HA.out;obtain⟨m0,m1,m2,m3,m4,m5,m6,m7⟩:=zAB HPM.out.m;obtain⟨k0,k1,k2,k3,k4,k5,k6,k7⟩:=zAB HPM.out.k)
  | (go_at_call 35;(with_reducible refine(HE2.out KA kl kc _ HPM.out.q).mono ?_);rintro e2 y2 ⟨rfl,ho⟩;replace HA:=zAA (HA.out.only ho (by simp));replace HPM:=zAA (HPM.out.only ho);clear ho;clear a0 a1 a2 a3 a4 a5 a6 a7 a8 a9 a10 a11 a12 a13 a14 a15 a16 m0 m1 m2 m3 m4 m5 m6 m7 k0 k1 k2 k3 k4 k5 k6 k7;obtain⟨a0,a1,a2,a3,a4,a5,a6,a7,a8,a9,a10,a11,a12,a13,a14,a15,a16⟩:=zAH HA.out;obtain⟨m0,m1,m2,m3,m4,m5,m6,m7⟩:=zAB HPM.out.m;obtain⟨k0,k1,k2,k3,k4,k5,k6,k7⟩:=zAB HPM.out.k))
 unfold PWI
 (try rw[HWI.out])
 rw[show((i+1:Nat):Int)=(i:Int)+1 from rfl]
 exact⟨_,_,_,_,_,_,_,_,_,_,_,_,_,_,_,_,_,_,_,_,_,_,_,_,_,_,_,_,_,_,_,_,_,_,_,_,_,_,_,_,_,_,_,_,_,_,_,_,_,_,_,_,_,_,_,_,_,_,_,_,_,_,_,_,_,_,_,_,_,_,_,_,_,_,_,_,_,_,_,_,_,_,_,_,_,_,_,_,_,_,_,_,_,_,_,_,_,_,_,_,_,_,_,_,_,_,_,_,_,_,_,_,_,_,_,_,_,_,_,_,_,_,_,_,_,_,_,_,_,_,_,_,_,_,_,_,_,_,_,_,_,_,_,_,_,_,_,_,_,_,_,_,_,_,_,_,_,_,_,_,_,_,_,_,_,_,_,_,_,_,_,_,_,_,_,_,_,_,_,_,_,_,n2,L,(sent++[⟨rk,rs,rr,rq,z4,z5,z6,z7,z8,z9,z10,z11,z12⟩]),sv2,rfl,HPM.out.back (by rw[HN2.out];exact HMX.out) (Nat.le_succ_of_le HST.out.len) (by rw[List.length_append];exact Nat.succ_le_succ HST.out.sl) (zHq HST.out.inc HST.out.lts HCN.out) (by rw[HN2.out];exact zKA HST.out.lts HCN.out) (zGc HST.out.fine HFI.out) HST.out.tw,HST.out.tw.only HPM.out.on (by simp)⟩
end
end Go.Proofs.YtfipdjlalfpbnaaGreatDoor
