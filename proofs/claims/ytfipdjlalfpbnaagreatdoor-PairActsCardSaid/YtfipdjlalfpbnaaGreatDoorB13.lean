/-
  Walks and plain words (texts Ph8, Ph9, Ph10). No condition beyond those that each theorem states.
-/
import Derived.Test.YtfipdjlalfpbnaaGreatDoorB08
namespace Go.Proofs.YtfipdjlalfpbnaaGreatDoor
section
open Go.Proofs.Tryz
set_option maxHeartbeats 12800000
set_option maxRecDepth 1000000
open Go.RowKit Go.Deep

theorem zKE(w:World)(g1 c1 g2 c2 R1 R2 B:Nat)(s1 s2:ByteArray)(lo re:Nat)(beg:Bool)(made:Int)(gl o ln cap:Nat)(l:List Pac)(hrd:RdS 17 acC w [] (.slice (some ⟨gl,o,none⟩) ln cap) l)(hln:ln=l.length)(cc:Nat->Value)(u12 u21 u22 u23 u24 u25 u26 u27 u28 u29 u30 u31 u32 u33 u34 u35 u36 u37 u38 u142 u143 u144 u145 u146 u147 u148 u149 u150 u151 u152 u153 u154 u155 u156 u157 u158 u159 u160 u161 u162 u163 u164 u165 u166 u167 u168 u169 u170 u171 u172 u173 u174 u175 u176 u177 u178 u179 u180 u181 u182 u183 u184 u185 u186 u187 u188 u189 u190 u191 u192 u193 u194 u195 u196 u197 u198 u199 u200 u201 u202 u203 u204 u205 u206 u207 u208 u209 u210 u211 u212 u213 u214 u215 u216 u217 u218 u219 u220 u221 u222 u223 u224 u225 u226 u227 u228 u229 u230 u231 u232 u233 u234 u235 u236 u237 u238 u239 u240 u241 u242 u243 u244 u245 u246 u247 u248 u249 u250 u251 u252 u253 u254 u255 u256 u257 u258 u259 u260 u261 u262 u263 u264 u265 u266 u267 u268 u269 u270 u271 u272 u273 u274 u275 u276 u277 u278 u279 u280 u281 u282 u283 u284 u285 u286 u287 u288 u289 u290 u291 u292 u293 u294 u295 u296 u297 u298 u299 u300 u301 u302 u303 u304:Value)(i n:Nat)(L:List Nat)(sent:List Mg)(sv:Value)(wr:World)(hpi:PaI w g1 c1 g2 c2 R1 R2 B s1 s2 lo re beg made i n L sent sv wr)(hi:i<ln)(h40:ln<=40)(ak:Nat)(now:Int)(Ab:Option Addr)(cb:Nat)(bs:List UInt8)(an:Nat)(k:Int)(sn r cq:Nat)(x4 x5 x6 x7 x8 x9 x10 x11 x12:ByteArray)(bl:Nat)(hbl:bl=bs.length)(ha:l[i]?=some ⟨ak,now,.slice Ab bl cb,bs,an,⟨k,sn,r,cq,x4,x5,x6,x7,x8,x9,x10,x11,x12⟩⟩)(hfa:zBm w ⟨ak,now,.slice Ab bl cb,bs,an,⟨k,sn,r,cq,x4,x5,x6,x7,x8,x9,x10,x11,x12⟩⟩)(hh:¬100<bl)(hv:zCL ⟨k,sn,r,cq,x4,x5,x6,x7,x8,x9,x10,x11,x12⟩ 600=false)(hm1:0<=made)(hm2:made<=1125899906842624)(h1:s1.size<=maxLen)(h2:s2.size<=maxLen)(hlo:lo<4294967296)(hre:re<4294967296)(hk:ak=4)(Q:Exit->Act->World->Prop):Code.wp prog zDL (Exit.then (PWI w g1 c1 g2 c2 R1 R2 B s1 s2 lo re beg made (.slice (some ⟨gl,o,none⟩) ln cap) cc (i+1)) Q) (FRP g1 g2 R1 R2 (.slice (some ⟨gl,o,none⟩) ln cap) sv (i) cc u12 u21 u22 u23 u24 u25 u26 u27 u28 u29 u30 u31 u32 u33 u34 u35 u36 u37 u38 u142 u143 u144 u145 u146 u147 u148 u149 u150 u151 u152 u153 u154 u155 u156 u157 u158 u159 u160 u161 u162 u163 u164 u165 u166 u167 u168 u169 u170 u171 u172 u173 u174 u175 u176 u177 u178 u179 u180 u181 u182 u183 u184 u185 u186 u187 u188 u189 u190 u191 u192 u193 u194 u195 u196 u197 u198 u199 u200 u201 u202 u203 u204 u205 u206 u207 u208 u209 u210 u211 u212 u213 u214 u215 u216 u217 u218 u219 u220 u221 u222 u223 u224 u225 u226 u227 u228 u229 u230 u231 u232 u233 u234 u235 u236 u237 u238 u239 u240 u241 u242 u243 u244 u245 u246 u247 u248 u249 u250 u251 u252 u253 u254 u255 u256 u257 u258 u259 u260 u261 u262 u263 u264 u265 u266 u267 u268 u269 u270 u271 u272 u273 u274 u275 u276 u277 u278 u279 u280 u281 u282 u283 u284 u285 u286 u287 u288 u289 u290 u291 u292 u293 u294 u295 u296 u297 u298 u299 u300 u301 u302 u303 u304) wr:=by
 have hltI:(i:Int)<ln:=by omega
 have HWI:=zAA (show wrap64 ((i:Int)+1)=(i:Int)+1 by unfold wrap64;omega)
 have hcs:=zB2 ha (hrd.only hpi.on (by simp))
 simp only at hcs
 obtain⟨a0,a1,a2,a3,a4,a5,a6,a7,a8,a9,a10,a11,a12,a13,a14,a15,a16⟩:=hcs
 have HST:=zAA hpi
 obtain⟨KA,kl,kc,hpm⟩:=hpi.mem
 have HPM:=zAA hpm
 have HHV:=zAA (fun W=>zBK ⟨k,sn,r,cq,x4,x5,x6,x7,x8,x9,x10,x11,x12⟩ 600 W)
 unfold zAn Mg.cells at HHV
 simp only at HHV
 rw[hv]at HHV
 obtain⟨hbr,hmF,han⟩:=hfa
 simp only at hbr hmF han
 have HBR:=zAA hbr
 have HMF:=zAA hmF
 have HAN:=zAA han
 have HE1:=zAA (fun(nn:Nat) W h=>zAm W g1 c1 s1 s2 lo re beg made nn none 0 0 now h hm1 hm2)
 have HE2:=zAA (fun A a b W h=>zAm W g2 c2 s2 s1 re lo (!beg) made 0 A a b now h hm1 hm2)
 unfold zAn at HE1 HE2
 simp only[show((0:Nat):Int)=0 from rfl]at HE2
 have e0:((ak:Int)==0)=false:=by rw[beq_eq_false_iff_ne];omega
 have e1:((ak:Int)==1)=false:=by rw[beq_eq_false_iff_ne];omega
 have e2:((ak:Int)==2)=false:=by rw[beq_eq_false_iff_ne];omega
 have e3:((ak:Int)==3)=false:=by rw[beq_eq_false_iff_ne];omega
 have e4:((ak:Int)==4)=true:=by rw[beq_iff_eq];omega
 clear hk
 have hLm:zCJ L<18446744073709551616:=Nat.lt_trans (WinSet.max_lt hpi.qw) (by decide)
 have hLl:L.length<=10000:=Nat.le_trans hpi.len (Nat.le_trans (Nat.le_of_lt hi) (Nat.le_trans h40 (by decide)))
 have HOQ:=zAA (fun W h hw=>zCn W g2 c2 s2 s1 re lo (!beg) made 0 L h hw now hm1 hm2 ⟨k,sn,r,cq,x4,x5,x6,x7,x8,x9,x10,x11,x12⟩ hmF)
 have HOR:=zAA (fun W A a b N hN hrw=>zGY W s2 s1 re lo (!beg) made 0 A a b L N hN hLm hLl hrw now ⟨k,sn,r,cq,x4,x5,x6,x7,x8,x9,x10,x11,x12⟩ hmF hm1 hm2)
 have HOL:=zAA (show(zAj re made s1 L now ⟨k,sn,r,cq,x4,x5,x6,x7,x8,x9,x10,x11,x12⟩).2.2.length<=i+1 from Nat.le_trans (zFH _ _ _ _ _ _) (Nat.succ_le_succ hpi.len))
 unfold zA3 at HOQ
 unfold zC6 at HOR
 simp only[show((0:Nat):Int)=0 from rfl]at HOQ HOR
 obtain⟨⟨ob,oc,oL⟩,hres⟩:∃q,zAj re made s1 L now ⟨k,sn,r,cq,x4,x5,x6,x7,x8,x9,x10,x11,x12⟩=q:=⟨_,rfl⟩
 rw[hres]at HOQ HOR HOL
 unfold Mg.cells at HOQ HOR
 simp only at HOQ HOR HOL
 clear hres hLm hLl
 have qoc:(oc != oc)=false:=by simp
 have HSA:=zAA (fun W v u hx hy=>zFD v u ob ob [] [] W hx hy)
 rw[decide_eq_true (rfl:ob=ob)]at HSA
 have q100:¬(100:Int)<bl:=by omega
 clear ha hbr hmF han hrd hpi hpm hbl hln hh hv hm1 hm2 h1 h2 hlo hre h40
 unfold FRP
 conv=>arg 2;whnf
 go_upto_region 17 with fail
 (iterate 11 go_step)
 have hrg:=zBa a0 a1 a2 a3 a4 a5 a6 a7 a8 a9 a10 a11 a12 a13 a14 a15 a16
 refine wp_load_mid 57 (.tmp 150) rfl gl (o+i*17) rfl _ _ hrg underlying57 rfl (by kernel_rfl) ?_
 clear hrg
 clear a0 a1 a2 a3 a4 a5 a6 a7 a8 a9 a10 a11 a12 a13 a14 a15 a16
 (iterate 5 go_step)
 have HGL:=zAA (And.intro (Blk.lt HPM.out.p) (And.intro (WinSet.lt HPM.out.qw) (And.intro (Blk.lt HPM.out.m) (Blk.lt HPM.out.k))))
 have HA0:=zAA (Blk.new wr 57 #[.int .u8 0,.int .i64 0,.slice none 0 0,.int .u64 0,.int .i64 0,.int .u32 0,.int .u32 0,.int .u64 0,.string ⟨#[]⟩,.string ⟨#[]⟩,.string ⟨#[]⟩,.string ⟨#[]⟩,.string ⟨#[]⟩,.string ⟨#[]⟩,.string ⟨#[]⟩,.string ⟨#[]⟩,.string ⟨#[]⟩])
 refine wp_store_mid 57 (.tmp 21) (.tmp 151) rfl wr.heap.size 0 #[.int .u8 (ak:Nat),.int .i64 now,.slice Ab bl cb,.int .u64 (an:Nat),.int .i64 k,.int .u32 (sn:Nat),.int .u32 (r:Nat),.int .u64 (cq:Nat),.string x4,.string x5,.string x6,.string x7,.string x8,.string x9,.string x10,.string x11,.string x12] rfl rfl (zAM HA0.out 17 rfl) (by kernel_rfl) (by simp[Value.oneCell']) ?_
 have HA:=zAA (show Blk ((wr.alloc (.cells #[.int .u8 0,.int .i64 0,.slice none 0 0,.int .u64 0,.int .i64 0,.int .u32 0,.int .u32 0,.int .u64 0,.string ⟨#[]⟩,.string ⟨#[]⟩,.string ⟨#[]⟩,.string ⟨#[]⟩,.string ⟨#[]⟩,.string ⟨#[]⟩,.string ⟨#[]⟩,.string ⟨#[]⟩,.string ⟨#[]⟩] 57)).setCells wr.heap.size 0 [.int .u8 (ak:Nat),.int .i64 now,.slice Ab bl cb,.int .u64 (an:Nat),.int .i64 k,.int .u32 (sn:Nat),.int .u32 (r:Nat),.int .u64 (cq:Nat),.string x4,.string x5,.string x6,.string x7,.string x8,.string x9,.string x10,.string x11,.string x12]) wr.heap.size 57 #[.int .u8 (ak:Nat),.int .i64 now,.slice Ab bl cb,.int .u64 (an:Nat),.int .i64 k,.int .u32 (sn:Nat),.int .u32 (r:Nat),.int .u64 (cq:Nat),.string x4,.string x5,.string x6,.string x7,.string x8,.string x9,.string x10,.string x11,.string x12]from zAJ HA0.out [.int .u8 (ak:Nat),.int .i64 now,.slice Ab bl cb,.int .u64 (an:Nat),.int .i64 k,.int .u32 (sn:Nat),.int .u32 (r:Nat),.int .u64 (cq:Nat),.string x4,.string x5,.string x6,.string x7,.string x8,.string x9,.string x10,.string x11,.string x12] rfl)
 have hoa:=zAL ((Only.refl [] wr).alloc (.cells #[.int .u8 0,.int .i64 0,.slice none 0 0,.int .u64 0,.int .i64 0,.int .u32 0,.int .u32 0,.int .u64 0,.string ⟨#[]⟩,.string ⟨#[]⟩,.string ⟨#[]⟩,.string ⟨#[]⟩,.string ⟨#[]⟩,.string ⟨#[]⟩,.string ⟨#[]⟩,.string ⟨#[]⟩,.string ⟨#[]⟩] 57)) (Nat.le_refl _) [.int .u8 (ak:Nat),.int .i64 now,.slice Ab bl cb,.int .u64 (an:Nat),.int .i64 k,.int .u32 (sn:Nat),.int .u32 (r:Nat),.int .u64 (cq:Nat),.string x4,.string x5,.string x6,.string x7,.string x8,.string x9,.string x10,.string x11,.string x12]
 replace HPM:=zAA (HPM.out.only hoa)
 clear hoa HA0
 obtain⟨G,hG⟩:∃q,q=wr.heap.size:=⟨_,rfl⟩
 rw[<-hG]at HA HPM HGL ⊢
 generalize ((wr.alloc (.cells #[.int .u8 0,.int .i64 0,.slice none 0 0,.int .u64 0,.int .i64 0,.int .u32 0,.int .u32 0,.int .u64 0,.string ⟨#[]⟩,.string ⟨#[]⟩,.string ⟨#[]⟩,.string ⟨#[]⟩,.string ⟨#[]⟩,.string ⟨#[]⟩,.string ⟨#[]⟩,.string ⟨#[]⟩,.string ⟨#[]⟩] 57)).setCells G 0 [.int .u8 (ak:Nat),.int .i64 now,.slice Ab bl cb,.int .u64 (an:Nat),.int .i64 k,.int .u32 (sn:Nat),.int .u32 (r:Nat),.int .u64 (cq:Nat),.string x4,.string x5,.string x6,.string x7,.string x8,.string x9,.string x10,.string x11,.string x12])=x0 at *
 clear hG
 go_upto_region 18 with fail
 obtain⟨a0,a1,a2,a3,a4,a5,a6,a7,a8,a9,a10,a11,a12,a13,a14,a15,a16⟩:=zAH HA.out
 obtain⟨m0,m1,m2,m3,m4,m5,m6,m7⟩:=zAB HPM.out.m
 obtain⟨k0,k1,k2,k3,k4,k5,k6,k7⟩:=zAB HPM.out.k
 go_upto_region 47 with (first
  | (go_at_call 28;refine(HHV.out _).mono ?_;rintro e2 x1 ⟨rfl,ho⟩;replace HA:=zAA (HA.out.only ho (by simp));replace HPM:=zAA (HPM.out.only ho);clear ho;clear a0 a1 a2 a3 a4 a5 a6 a7 a8 a9 a10 a11 a12 a13 a14 a15 a16 m0 m1 m2 m3 m4 m5 m6 m7 k0 k1 k2 k3 k4 k5 k6 k7;obtain⟨a0,a1,a2,a3,a4,a5,a6,a7,a8,a9,a10,a11,a12,a13,a14,a15,a16⟩:=zAH HA.out;obtain⟨m0,m1,m2,m3,m4,m5,m6,m7⟩:=zAB HPM.out.m;obtain⟨k0,k1,k2,k3,k4,k5,k6,k7⟩:=zAB HPM.out.k)
  | (go_at_call 31;(with_reducible refine(HOQ.out _ HPM.out.q HPM.out.qw).mono ?_);rintro e2 y3 ⟨v1,rfl,hb1,hq1,hw1,ho⟩;obtain⟨A1,ca1,rfl,_,_⟩:=hb1.formb;have HB1:=zAA hb1;replace HA:=zAA (HA.out.only ho (by have h:=HGL.out;simp;omega));replace HPM:=zAA (HPM.out.opened hq1 hw1 ho);clear hb1 hq1 hw1 ho;clear a0 a1 a2 a3 a4 a5 a6 a7 a8 a9 a10 a11 a12 a13 a14 a15 a16 m0 m1 m2 m3 m4 m5 m6 m7 k0 k1 k2 k3 k4 k5 k6 k7;obtain⟨a0,a1,a2,a3,a4,a5,a6,a7,a8,a9,a10,a11,a12,a13,a14,a15,a16⟩:=zAH HA.out;obtain⟨m0,m1,m2,m3,m4,m5,m6,m7⟩:=zAB HPM.out.m;obtain⟨k0,k1,k2,k3,k4,k5,k6,k7⟩:=zAB HPM.out.k))
 go_upto_region 48 with (first
  | (go_at_call 32;(with_reducible refine(HOR.out _ KA kl kc _ HPM.out.low HPM.out.kr).mono ?_);rintro e2 y4 ⟨A2,l2,ca2,v2,rfl,hr2,hb2,ho⟩;obtain⟨A3,ca3,rfl,_,_⟩:=hb2.formb;have HB2:=zAA hb2;have HR2:=zAA hr2;replace HB1:=zAA (HB1.out.only ho (by simp));clear hb2 hr2;replace HA:=zAA (HA.out.only ho (by simp));replace HPM:=zAA (HPM.out.only ho);clear ho;clear a0 a1 a2 a3 a4 a5 a6 a7 a8 a9 a10 a11 a12 a13 a14 a15 a16 m0 m1 m2 m3 m4 m5 m6 m7 k0 k1 k2 k3 k4 k5 k6 k7;obtain⟨a0,a1,a2,a3,a4,a5,a6,a7,a8,a9,a10,a11,a12,a13,a14,a15,a16⟩:=zAH HA.out;obtain⟨m0,m1,m2,m3,m4,m5,m6,m7⟩:=zAB HPM.out.m;obtain⟨k0,k1,k2,k3,k4,k5,k6,k7⟩:=zAB HPM.out.k))
 have HN:=zAA (Blk.new y4 53 #[.string s2,.string s1,.int .u32 (re:Nat),.int .u32 (lo:Nat),.bool !beg,.int .i64 made,.int .u64 (0:Nat),.slice A2 l2 ca2])
 have hoa:=(Only.refl [] y4).alloc (.cells #[.string s2,.string s1,.int .u32 (re:Nat),.int .u32 (lo:Nat),.bool !beg,.int .i64 made,.int .u64 (0:Nat),.slice A2 l2 ca2] 53)
 replace HA:=zAA (HA.out.only hoa (by simp))
 replace HB1:=zAA (HB1.out.only hoa (by simp))
 replace HB2:=zAA (HB2.out.only hoa (by simp))
 replace HR2:=zAA (HR2.out.only hoa (by simp))
 replace HPM:=zAA (HPM.out.only hoa)
 clear hoa
 obtain⟨GN,hGN⟩:∃q,q=y4.heap.size:=⟨_,rfl⟩
 rw[<-hGN]at HN ⊢
 clear hGN
 generalize (y4.alloc (.cells #[.string s2,.string s1,.int .u32 (re:Nat),.int .u32 (lo:Nat),.bool !beg,.int .i64 made,.int .u64 (0:Nat),.slice A2 l2 ca2] 53))=v4 at *
 clear a0 a1 a2 a3 a4 a5 a6 a7 a8 a9 a10 a11 a12 a13 a14 a15 a16 m0 m1 m2 m3 m4 m5 m6 m7 k0 k1 k2 k3 k4 k5 k6 k7;obtain⟨a0,a1,a2,a3,a4,a5,a6,a7,a8,a9,a10,a11,a12,a13,a14,a15,a16⟩:=zAH HA.out;obtain⟨m0,m1,m2,m3,m4,m5,m6,m7⟩:=zAB HPM.out.m;obtain⟨k0,k1,k2,k3,k4,k5,k6,k7⟩:=zAB HPM.out.k
 obtain⟨n_0,n_1,n_2,n_3,n_4,n_5,n_6,n_7⟩:=zAB HN.out
 go_upto_region 50 with (first
  | (go_at_call 33;(with_reducible refine(HSA.out _ _ _ HB1.out HB2.out).mono ?_);rintro e2 y5 ⟨rfl,rfl⟩))
 (iterate 4 go_step)
 refine wpList_store_mid rfl _ _ _ rfl _ 0 #[.string s2,.string s1,.int .u32 (re:Nat),.int .u32 (lo:Nat),.bool !beg,.int .i64 made,.int .u64 (0:Nat),.slice A2 l2 ca2] rfl rfl (zAM HPM.out.k _ rfl) (by kernel_rfl) (by simp[Value.oneCell']) ?_
 have hso:=zAA (Only.setCells (S:=[R2]) (g:=R2) (.inl (by simp)) 0 [.string s2,.string s1,.int .u32 (re:Nat),.int .u32 (lo:Nat),.bool !beg,.int .i64 made,.int .u64 (0:Nat),.slice A2 l2 ca2] (Only.refl _ v4))
 have hsb:=zAA (show Blk (v4.setCells R2 0 [.string s2,.string s1,.int .u32 (re:Nat),.int .u32 (lo:Nat),.bool !beg,.int .i64 made,.int .u64 (0:Nat),.slice A2 l2 ca2]) R2 _ #[.string s2,.string s1,.int .u32 (re:Nat),.int .u32 (lo:Nat),.bool !beg,.int .i64 made,.int .u64 (0:Nat),.slice A2 l2 ca2]from zAJ HPM.out.k [.string s2,.string s1,.int .u32 (re:Nat),.int .u32 (lo:Nat),.bool !beg,.int .i64 made,.int .u64 (0:Nat),.slice A2 l2 ca2] rfl)
 replace HA:=zAA (HA.out.only hso.out (by have h:=HGL.out;simp;omega))
 replace HPM:=zAA (HPM.out.setK hsb.out HR2.out hso.out)
 clear hso hsb
 generalize (v4.setCells R2 0 [.string s2,.string s1,.int .u32 (re:Nat),.int .u32 (lo:Nat),.bool !beg,.int .i64 made,.int .u64 (0:Nat),.slice A2 l2 ca2])=v5 at *
 clear a0 a1 a2 a3 a4 a5 a6 a7 a8 a9 a10 a11 a12 a13 a14 a15 a16 m0 m1 m2 m3 m4 m5 m6 m7 k0 k1 k2 k3 k4 k5 k6 k7;obtain⟨a0,a1,a2,a3,a4,a5,a6,a7,a8,a9,a10,a11,a12,a13,a14,a15,a16⟩:=zAH HA.out;obtain⟨m0,m1,m2,m3,m4,m5,m6,m7⟩:=zAB HPM.out.m;obtain⟨k0,k1,k2,k3,k4,k5,k6,k7⟩:=zAB HPM.out.k
 go_wp2_with (first
  | (go_at_call 35;(with_reducible refine(HE1.out n _ HPM.out.p).mono ?_);rintro e2 y1 ⟨rfl,ho⟩;replace HA:=zAA (HA.out.only ho (by simp));replace HPM:=zAA (HPM.out.only ho);clear ho;clear a0 a1 a2 a3 a4 a5 a6 a7 a8 a9 a10 a11 a12 a13 a14 a15 a16 m0 m1 m2 m3 m4 m5 m6 m7 k0 k1 k2 k3 k4 k5 k6 k7;obtain⟨a0,a1,a2,a3,a4,a5,a6,a7,a8,a9,a10,a11,a12,a13,a14,a15,a16⟩:=zAH HA.out;obtain⟨m0,m1,m2,m3,m4,m5,m6,m7⟩:=zAB HPM.out.m;obtain⟨k0,k1,k2,k3,k4,k5,k6,k7⟩:=zAB HPM.out.k)
  | (go_at_call 35;(with_reducible refine(HE2.out A2 l2 ca2 _ HPM.out.q).mono ?_);rintro e2 y2 ⟨rfl,ho⟩;replace HA:=zAA (HA.out.only ho (by simp));replace HPM:=zAA (HPM.out.only ho);clear ho;clear a0 a1 a2 a3 a4 a5 a6 a7 a8 a9 a10 a11 a12 a13 a14 a15 a16 m0 m1 m2 m3 m4 m5 m6 m7 k0 k1 k2 k3 k4 k5 k6 k7;obtain⟨a0,a1,a2,a3,a4,a5,a6,a7,a8,a9,a10,a11,a12,a13,a14,a15,a16⟩:=zAH HA.out;obtain⟨m0,m1,m2,m3,m4,m5,m6,m7⟩:=zAB HPM.out.m;obtain⟨k0,k1,k2,k3,k4,k5,k6,k7⟩:=zAB HPM.out.k))
 unfold PWI
 (try rw[HWI.out])
 rw[show((i+1:Nat):Int)=(i:Int)+1 from rfl]
 exact⟨_,_,_,_,_,_,_,_,_,_,_,_,_,_,_,_,_,_,_,_,_,_,_,_,_,_,_,_,_,_,_,_,_,_,_,_,_,_,_,_,_,_,_,_,_,_,_,_,_,_,_,_,_,_,_,_,_,_,_,_,_,_,_,_,_,_,_,_,_,_,_,_,_,_,_,_,_,_,_,_,_,_,_,_,_,_,_,_,_,_,_,_,_,_,_,_,_,_,_,_,_,_,_,_,_,_,_,_,_,_,_,_,_,_,_,_,_,_,_,_,_,_,_,_,_,_,_,_,_,_,_,_,_,_,_,_,_,_,_,_,_,_,_,_,_,_,_,_,_,_,_,_,_,_,_,_,_,_,_,_,_,_,_,_,_,_,_,_,_,_,_,_,_,_,_,_,_,_,_,_,_,_,n,oL,sent,sv,rfl,HPM.out.back HST.out.n2 HOL.out (Nat.le_succ_of_le HST.out.sl) HST.out.inc HST.out.lts HST.out.fine HST.out.tw,HST.out.tw.only HPM.out.on (by simp)⟩
end
section
open Go.Proofs.Tryz
set_option maxHeartbeats 12800000
set_option maxRecDepth 1000000
open Go.RowKit Go.Deep

theorem zHr(m:Mg):m.cells.toList.length=13:=rfl
theorem zKF{sent:List Mg}{i:Nat}{m:Mg}(h:sent[i]?=some m){w:World}{N:List Nat}{g o n cap:Nat}(hr:RdS 13 (fun m=>m.cells.toList) w N (.slice (some ⟨g,o,none⟩) n cap) sent) :
  w.cell? ⟨g,o+i*13,none⟩=some (.int .i64 m.k)∧w.cell? ⟨g,o+i*13+1,none⟩=some (.int .u32 (m.s:Nat))∧w.cell? ⟨g,o+i*13+2,none⟩=some (.int .u32 (m.r:Nat))∧w.cell? ⟨g,o+i*13+3,none⟩=some (.int .u64 (m.c:Nat))∧w.cell? ⟨g,o+i*13+4,none⟩=some (.string m.x4)∧w.cell? ⟨g,o+i*13+5,none⟩=some (.string m.x5)∧w.cell? ⟨g,o+i*13+6,none⟩=some (.string m.x6)∧w.cell? ⟨g,o+i*13+7,none⟩=some (.string m.x7)∧w.cell? ⟨g,o+i*13+8,none⟩=some (.string m.x8)∧w.cell? ⟨g,o+i*13+9,none⟩=some (.string m.x9)∧w.cell? ⟨g,o+i*13+10,none⟩=some (.string m.x10)∧w.cell? ⟨g,o+i*13+11,none⟩=some (.string m.x11)∧w.cell? ⟨g,o+i*13+12,none⟩=some (.string m.x12):=by
 have h0:=hr.cell h (j:=0) (u:=.int .i64 m.k) rfl
 have h1:=hr.cell h (j:=1) (u:=.int .u32 (m.s:Nat)) rfl
 have h2:=hr.cell h (j:=2) (u:=.int .u32 (m.r:Nat)) rfl
 have h3:=hr.cell h (j:=3) (u:=.int .u64 (m.c:Nat)) rfl
 have h4:=hr.cell h (j:=4) (u:=.string m.x4) rfl
 have h5:=hr.cell h (j:=5) (u:=.string m.x5) rfl
 have h6:=hr.cell h (j:=6) (u:=.string m.x6) rfl
 have h7:=hr.cell h (j:=7) (u:=.string m.x7) rfl
 have h8:=hr.cell h (j:=8) (u:=.string m.x8) rfl
 have h9:=hr.cell h (j:=9) (u:=.string m.x9) rfl
 have h10:=hr.cell h (j:=10) (u:=.string m.x10) rfl
 have h11:=hr.cell h (j:=11) (u:=.string m.x11) rfl
 have h12:=hr.cell h (j:=12) (u:=.string m.x12) rfl
 refine⟨h0,?_,?_,?_,?_,?_,?_,?_,?_,?_,?_,?_,?_⟩
 ·rw[Nat.add_assoc];exact h1
 ·rw[Nat.add_assoc];exact h2
 ·rw[Nat.add_assoc];exact h3
 ·rw[Nat.add_assoc];exact h4
 ·rw[Nat.add_assoc];exact h5
 ·rw[Nat.add_assoc];exact h6
 ·rw[Nat.add_assoc];exact h7
 ·rw[Nat.add_assoc];exact h8
 ·rw[Nat.add_assoc];exact h9
 ·rw[Nat.add_assoc];exact h10
 ·rw[Nat.add_assoc];exact h11
 ·rw[Nat.add_assoc];exact h12
theorem zHA(w:World)(g1 c1 g2 c2 R1 R2 B:Nat)(s1 s2:ByteArray)(lo re:Nat)(beg:Bool)(made:Int)(gl o ln cap:Nat)(l:List Pac)(hrd:RdS 17 acC w [] (.slice (some ⟨gl,o,none⟩) ln cap) l)(hln:ln=l.length)(cc:Nat->Value)(u12 u21 u22 u23 u24 u25 u26 u27 u28 u29 u30 u31 u32 u33 u34 u35 u36 u37 u38 u142 u143 u144 u145 u146 u147 u148 u149 u150 u151 u152 u153 u154 u155 u156 u157 u158 u159 u160 u161 u162 u163 u164 u165 u166 u167 u168 u169 u170 u171 u172 u173 u174 u175 u176 u177 u178 u179 u180 u181 u182 u183 u184 u185 u186 u187 u188 u189 u190 u191 u192 u193 u194 u195 u196 u197 u198 u199 u200 u201 u202 u203 u204 u205 u206 u207 u208 u209 u210 u211 u212 u213 u214 u215 u216 u217 u218 u219 u220 u221 u222 u223 u224 u225 u226 u227 u228 u229 u230 u231 u232 u233 u234 u235 u236 u237 u238 u239 u240 u241 u242 u243 u244 u245 u246 u247 u248 u249 u250 u251 u252 u253 u254 u255 u256 u257 u258 u259 u260 u261 u262 u263 u264 u265 u266 u267 u268 u269 u270 u271 u272 u273 u274 u275 u276 u277 u278 u279 u280 u281 u282 u283 u284 u285 u286 u287 u288 u289 u290 u291 u292 u293 u294 u295 u296 u297 u298 u299 u300 u301 u302 u303 u304:Value)(i n:Nat)(L:List Nat)(sent:List Mg)(sv:Value)(wr:World)(hpi:PaI w g1 c1 g2 c2 R1 R2 B s1 s2 lo re beg made i n L sent sv wr)(hi:i<ln)(h40:ln<=40)(ak:Nat)(now:Int)(Ab:Option Addr)(cb:Nat)(bs:List UInt8)(an:Nat)(k:Int)(sn r cq:Nat)(x4 x5 x6 x7 x8 x9 x10 x11 x12:ByteArray)(bl:Nat)(hbl:bl=bs.length)(ha:l[i]?=some ⟨ak,now,.slice Ab bl cb,bs,an,⟨k,sn,r,cq,x4,x5,x6,x7,x8,x9,x10,x11,x12⟩⟩)(hfa:zBm w ⟨ak,now,.slice Ab bl cb,bs,an,⟨k,sn,r,cq,x4,x5,x6,x7,x8,x9,x10,x11,x12⟩⟩)(hh:¬100<bl)(hv:zCL ⟨k,sn,r,cq,x4,x5,x6,x7,x8,x9,x10,x11,x12⟩ 600=false)(hm1:0<=made)(hm2:made<=1125899906842624)(h1:s1.size<=maxLen)(h2:s2.size<=maxLen)(hlo:lo<4294967296)(hre:re<4294967296)(hk:ak=2)(he:sent=[])(Q:Exit->Act->World->Prop):Code.wp prog zDL (Exit.then (PWI w g1 c1 g2 c2 R1 R2 B s1 s2 lo re beg made (.slice (some ⟨gl,o,none⟩) ln cap) cc (i+1)) Q) (FRP g1 g2 R1 R2 (.slice (some ⟨gl,o,none⟩) ln cap) sv (i) cc u12 u21 u22 u23 u24 u25 u26 u27 u28 u29 u30 u31 u32 u33 u34 u35 u36 u37 u38 u142 u143 u144 u145 u146 u147 u148 u149 u150 u151 u152 u153 u154 u155 u156 u157 u158 u159 u160 u161 u162 u163 u164 u165 u166 u167 u168 u169 u170 u171 u172 u173 u174 u175 u176 u177 u178 u179 u180 u181 u182 u183 u184 u185 u186 u187 u188 u189 u190 u191 u192 u193 u194 u195 u196 u197 u198 u199 u200 u201 u202 u203 u204 u205 u206 u207 u208 u209 u210 u211 u212 u213 u214 u215 u216 u217 u218 u219 u220 u221 u222 u223 u224 u225 u226 u227 u228 u229 u230 u231 u232 u233 u234 u235 u236 u237 u238 u239 u240 u241 u242 u243 u244 u245 u246 u247 u248 u249 u250 u251 u252 u253 u254 u255 u256 u257 u258 u259 u260 u261 u262 u263 u264 u265 u266 u267 u268 u269 u270 u271 u272 u273 u274 u275 u276 u277 u278 u279 u280 u281 u282 u283 u284 u285 u286 u287 u288 u289 u290 u291 u292 u293 u294 u295 u296 u297 u298 u299 u300 u301 u302 u303 u304) wr:=by
 have hltI:(i:Int)<ln:=by omega
 have HWI:=zAA (show wrap64 ((i:Int)+1)=(i:Int)+1 by unfold wrap64;omega)
 have hcs:=zB2 ha (hrd.only hpi.on (by simp))
 simp only at hcs
 obtain⟨a0,a1,a2,a3,a4,a5,a6,a7,a8,a9,a10,a11,a12,a13,a14,a15,a16⟩:=hcs
 have HST:=zAA hpi
 obtain⟨KA,kl,kc,hpm⟩:=hpi.mem
 have HPM:=zAA hpm
 have HHV:=zAA (fun W=>zBK ⟨k,sn,r,cq,x4,x5,x6,x7,x8,x9,x10,x11,x12⟩ 600 W)
 unfold zAn Mg.cells at HHV
 simp only at HHV
 rw[hv]at HHV
 obtain⟨hbr,hmF,han⟩:=hfa
 simp only at hbr hmF han
 have HBR:=zAA hbr
 have HMF:=zAA hmF
 have HAN:=zAA han
 have HE1:=zAA (fun(nn:Nat) W h=>zAm W g1 c1 s1 s2 lo re beg made nn none 0 0 now h hm1 hm2)
 have HE2:=zAA (fun A a b W h=>zAm W g2 c2 s2 s1 re lo (!beg) made 0 A a b now h hm1 hm2)
 unfold zAn at HE1 HE2
 simp only[show((0:Nat):Int)=0 from rfl]at HE2
 have e0:((ak:Int)==0)=false:=by rw[beq_eq_false_iff_ne];omega
 have e1:((ak:Int)==1)=false:=by rw[beq_eq_false_iff_ne];omega
 have e2:((ak:Int)==2)=true:=by rw[beq_iff_eq];omega
 clear hk
 obtain⟨SA,sc,hsv,_,_⟩:=zAh hpi.own
 subst hsv
 have e9:((sent.length:Int)==0)=true:=by rw[he];rfl
 clear he
 have q100:¬(100:Int)<bl:=by omega
 clear ha hbr hmF han hrd hpi hpm hbl hln hh hv hm1 hm2 h1 h2 hlo hre h40
 unfold FRP
 conv=>arg 2;whnf
 go_upto_region 17 with fail
 (iterate 11 go_step)
 have hrg:=zBa a0 a1 a2 a3 a4 a5 a6 a7 a8 a9 a10 a11 a12 a13 a14 a15 a16
 refine wp_load_mid 57 (.tmp 150) rfl gl (o+i*17) rfl _ _ hrg underlying57 rfl (by kernel_rfl) ?_
 clear hrg
 clear a0 a1 a2 a3 a4 a5 a6 a7 a8 a9 a10 a11 a12 a13 a14 a15 a16
 (iterate 5 go_step)
 have HGL:=zAA (And.intro (Blk.lt HPM.out.p) (And.intro (WinSet.lt HPM.out.qw) (And.intro (Blk.lt HPM.out.m) (Blk.lt HPM.out.k))))
 have HA0:=zAA (Blk.new wr 57 #[.int .u8 0,.int .i64 0,.slice none 0 0,.int .u64 0,.int .i64 0,.int .u32 0,.int .u32 0,.int .u64 0,.string ⟨#[]⟩,.string ⟨#[]⟩,.string ⟨#[]⟩,.string ⟨#[]⟩,.string ⟨#[]⟩,.string ⟨#[]⟩,.string ⟨#[]⟩,.string ⟨#[]⟩,.string ⟨#[]⟩])
 refine wp_store_mid 57 (.tmp 21) (.tmp 151) rfl wr.heap.size 0 #[.int .u8 (ak:Nat),.int .i64 now,.slice Ab bl cb,.int .u64 (an:Nat),.int .i64 k,.int .u32 (sn:Nat),.int .u32 (r:Nat),.int .u64 (cq:Nat),.string x4,.string x5,.string x6,.string x7,.string x8,.string x9,.string x10,.string x11,.string x12] rfl rfl (zAM HA0.out 17 rfl) (by kernel_rfl) (by simp[Value.oneCell']) ?_
 have HA:=zAA (show Blk ((wr.alloc (.cells #[.int .u8 0,.int .i64 0,.slice none 0 0,.int .u64 0,.int .i64 0,.int .u32 0,.int .u32 0,.int .u64 0,.string ⟨#[]⟩,.string ⟨#[]⟩,.string ⟨#[]⟩,.string ⟨#[]⟩,.string ⟨#[]⟩,.string ⟨#[]⟩,.string ⟨#[]⟩,.string ⟨#[]⟩,.string ⟨#[]⟩] 57)).setCells wr.heap.size 0 [.int .u8 (ak:Nat),.int .i64 now,.slice Ab bl cb,.int .u64 (an:Nat),.int .i64 k,.int .u32 (sn:Nat),.int .u32 (r:Nat),.int .u64 (cq:Nat),.string x4,.string x5,.string x6,.string x7,.string x8,.string x9,.string x10,.string x11,.string x12]) wr.heap.size 57 #[.int .u8 (ak:Nat),.int .i64 now,.slice Ab bl cb,.int .u64 (an:Nat),.int .i64 k,.int .u32 (sn:Nat),.int .u32 (r:Nat),.int .u64 (cq:Nat),.string x4,.string x5,.string x6,.string x7,.string x8,.string x9,.string x10,.string x11,.string x12]from zAJ HA0.out [.int .u8 (ak:Nat),.int .i64 now,.slice Ab bl cb,.int .u64 (an:Nat),.int .i64 k,.int .u32 (sn:Nat),.int .u32 (r:Nat),.int .u64 (cq:Nat),.string x4,.string x5,.string x6,.string x7,.string x8,.string x9,.string x10,.string x11,.string x12] rfl)
 have hoa:=zAL ((Only.refl [] wr).alloc (.cells #[.int .u8 0,.int .i64 0,.slice none 0 0,.int .u64 0,.int .i64 0,.int .u32 0,.int .u32 0,.int .u64 0,.string ⟨#[]⟩,.string ⟨#[]⟩,.string ⟨#[]⟩,.string ⟨#[]⟩,.string ⟨#[]⟩,.string ⟨#[]⟩,.string ⟨#[]⟩,.string ⟨#[]⟩,.string ⟨#[]⟩] 57)) (Nat.le_refl _) [.int .u8 (ak:Nat),.int .i64 now,.slice Ab bl cb,.int .u64 (an:Nat),.int .i64 k,.int .u32 (sn:Nat),.int .u32 (r:Nat),.int .u64 (cq:Nat),.string x4,.string x5,.string x6,.string x7,.string x8,.string x9,.string x10,.string x11,.string x12]
 replace HPM:=zAA (HPM.out.only hoa)
 clear hoa HA0
 obtain⟨G,hG⟩:∃q,q=wr.heap.size:=⟨_,rfl⟩
 rw[<-hG]at HA HPM HGL ⊢
 generalize ((wr.alloc (.cells #[.int .u8 0,.int .i64 0,.slice none 0 0,.int .u64 0,.int .i64 0,.int .u32 0,.int .u32 0,.int .u64 0,.string ⟨#[]⟩,.string ⟨#[]⟩,.string ⟨#[]⟩,.string ⟨#[]⟩,.string ⟨#[]⟩,.string ⟨#[]⟩,.string ⟨#[]⟩,.string ⟨#[]⟩,.string ⟨#[]⟩] 57)).setCells G 0 [.int .u8 (ak:Nat),.int .i64 now,.slice Ab bl cb,.int .u64 (an:Nat),.int .i64 k,.int .u32 (sn:Nat),.int .u32 (r:Nat),.int .u64 (cq:Nat),.string x4,.string x5,.string x6,.string x7,.string x8,.string x9,.string x10,.string x11,.string x12])=x0 at *
 clear hG
 go_upto_region 18 with fail
 obtain⟨a0,a1,a2,a3,a4,a5,a6,a7,a8,a9,a10,a11,a12,a13,a14,a15,a16⟩:=zAH HA.out
 obtain⟨m0,m1,m2,m3,m4,m5,m6,m7⟩:=zAB HPM.out.m
 obtain⟨k0,k1,k2,k3,k4,k5,k6,k7⟩:=zAB HPM.out.k
 go_wp2_with (first
  | (go_at_call 28;refine(HHV.out _).mono ?_;rintro e2 x1 ⟨rfl,ho⟩;replace HA:=zAA (HA.out.only ho (by simp));replace HPM:=zAA (HPM.out.only ho);clear ho;clear a0 a1 a2 a3 a4 a5 a6 a7 a8 a9 a10 a11 a12 a13 a14 a15 a16 m0 m1 m2 m3 m4 m5 m6 m7 k0 k1 k2 k3 k4 k5 k6 k7;obtain⟨a0,a1,a2,a3,a4,a5,a6,a7,a8,a9,a10,a11,a12,a13,a14,a15,a16⟩:=zAH HA.out;obtain⟨m0,m1,m2,m3,m4,m5,m6,m7⟩:=zAB HPM.out.m;obtain⟨k0,k1,k2,k3,k4,k5,k6,k7⟩:=zAB HPM.out.k))
 unfold PWI
 (try rw[HWI.out])
 rw[show((i+1:Nat):Int)=(i:Int)+1 from rfl]
 exact⟨_,_,_,_,_,_,_,_,_,_,_,_,_,_,_,_,_,_,_,_,_,_,_,_,_,_,_,_,_,_,_,_,_,_,_,_,_,_,_,_,_,_,_,_,_,_,_,_,_,_,_,_,_,_,_,_,_,_,_,_,_,_,_,_,_,_,_,_,_,_,_,_,_,_,_,_,_,_,_,_,_,_,_,_,_,_,_,_,_,_,_,_,_,_,_,_,_,_,_,_,_,_,_,_,_,_,_,_,_,_,_,_,_,_,_,_,_,_,_,_,_,_,_,_,_,_,_,_,_,_,_,_,_,_,_,_,_,_,_,_,_,_,_,_,_,_,_,_,_,_,_,_,_,_,_,_,_,_,_,_,_,_,_,_,_,_,_,_,_,_,_,_,_,_,_,_,_,_,_,_,_,_,n,L,sent,_,rfl,HPM.out.back HST.out.n2 (Nat.le_succ_of_le HST.out.len) (Nat.le_succ_of_le HST.out.sl) HST.out.inc HST.out.lts HST.out.fine HST.out.tw,HST.out.tw.only HPM.out.on (by simp)⟩
end
section
open Go.Proofs.Tryz
set_option maxHeartbeats 12800000
set_option maxRecDepth 1000000
open Go.RowKit Go.Deep

theorem zMV(w:World)(g1 c1 g2 c2 R1 R2 B:Nat)(s1 s2:ByteArray)(lo re:Nat)(beg:Bool)(made:Int)(A:Option Addr)(ln cap:Nat)(cc:Nat->Value)(u12 u21 u22 u23 u24 u25 u26 u27 u28 u29 u30 u31 u32 u33 u34 u35 u36 u37 u38 u142 u143 u144 u145 u146 u147 u148 u149 u150 u151 u152 u153 u154 u155 u156 u157 u158 u159 u160 u161 u162 u163 u164 u165 u166 u167 u168 u169 u170 u171 u172 u173 u174 u175 u176 u177 u178 u179 u180 u181 u182 u183 u184 u185 u186 u187 u188 u189 u190 u191 u192 u193 u194 u195 u196 u197 u198 u199 u200 u201 u202 u203 u204 u205 u206 u207 u208 u209 u210 u211 u212 u213 u214 u215 u216 u217 u218 u219 u220 u221 u222 u223 u224 u225 u226 u227 u228 u229 u230 u231 u232 u233 u234 u235 u236 u237 u238 u239 u240 u241 u242 u243 u244 u245 u246 u247 u248 u249 u250 u251 u252 u253 u254 u255 u256 u257 u258 u259 u260 u261 u262 u263 u264 u265 u266 u267 u268 u269 u270 u271 u272 u273 u274 u275 u276 u277 u278 u279 u280 u281 u282 u283 u284 u285 u286 u287 u288 u289 u290 u291 u292 u293 u294 u295 u296 u297 u298 u299 u300 u301 u302 u303 u304:Value)(n:Nat)(L:List Nat)(sent:List Mg)(sv:Value)(wr:World)(hpi:PaI w g1 c1 g2 c2 R1 R2 B s1 s2 lo re beg made ln n L sent sv wr)(ht:Tab wr)(R:Act->World->Prop)(Q:Exit->Act->World->Prop)(hex:∀a w',PWI w g1 c1 g2 c2 R1 R2 B s1 s2 lo re beg made (.slice A ln cap) cc ln a w'->Q (.exit 0) a w') :
  Code.wp prog zDL (Exit.then R Q) (FRP g1 g2 R1 R2 (.slice A ln cap) sv ((ln:Nat)) cc u12 u21 u22 u23 u24 u25 u26 u27 u28 u29 u30 u31 u32 u33 u34 u35 u36 u37 u38 u142 u143 u144 u145 u146 u147 u148 u149 u150 u151 u152 u153 u154 u155 u156 u157 u158 u159 u160 u161 u162 u163 u164 u165 u166 u167 u168 u169 u170 u171 u172 u173 u174 u175 u176 u177 u178 u179 u180 u181 u182 u183 u184 u185 u186 u187 u188 u189 u190 u191 u192 u193 u194 u195 u196 u197 u198 u199 u200 u201 u202 u203 u204 u205 u206 u207 u208 u209 u210 u211 u212 u213 u214 u215 u216 u217 u218 u219 u220 u221 u222 u223 u224 u225 u226 u227 u228 u229 u230 u231 u232 u233 u234 u235 u236 u237 u238 u239 u240 u241 u242 u243 u244 u245 u246 u247 u248 u249 u250 u251 u252 u253 u254 u255 u256 u257 u258 u259 u260 u261 u262 u263 u264 u265 u266 u267 u268 u269 u270 u271 u272 u273 u274 u275 u276 u277 u278 u279 u280 u281 u282 u283 u284 u285 u286 u287 u288 u289 u290 u291 u292 u293 u294 u295 u296 u297 u298 u299 u300 u301 u302 u303 u304) wr:=by
 have HPI:=zAA hpi
 have HT:=zAA ht
 have q1:¬(ln:Int)<ln:=by omega
 clear hpi ht
 unfold FRP
 conv=>arg 2;whnf
 go_wp2_with fail
 unfold PWI
 exact⟨_,_,_,_,_,_,_,_,_,_,_,_,_,_,_,_,_,_,_,_,_,_,_,_,_,_,_,_,_,_,_,_,_,_,_,_,_,_,_,_,_,_,_,_,_,_,_,_,_,_,_,_,_,_,_,_,_,_,_,_,_,_,_,_,_,_,_,_,_,_,_,_,_,_,_,_,_,_,_,_,_,_,_,_,_,_,_,_,_,_,_,_,_,_,_,_,_,_,_,_,_,_,_,_,_,_,_,_,_,_,_,_,_,_,_,_,_,_,_,_,_,_,_,_,_,_,_,_,_,_,_,_,_,_,_,_,_,_,_,_,_,_,_,_,_,_,_,_,_,_,_,_,_,_,_,_,_,_,_,_,_,_,_,_,_,_,_,_,_,_,_,_,_,_,_,_,_,_,_,_,_,_,n,L,sent,sv,rfl,HPI.out,HT.out⟩
end
end Go.Proofs.YtfipdjlalfpbnaaGreatDoor
