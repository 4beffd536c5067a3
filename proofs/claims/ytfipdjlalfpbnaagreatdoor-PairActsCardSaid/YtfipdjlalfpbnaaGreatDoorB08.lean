/-
  Walks and plain words (texts Ph1, Ph3, Ph2). No condition beyond those that each theorem states.
-/
import Derived.Test.YtfipdjlalfpbnaaGreatDoorB07
namespace Go.Proofs.YtfipdjlalfpbnaaGreatDoor
section
open Go.Proofs.Tryz
set_option maxHeartbeats 12800000
set_option maxRecDepth 1000000
open Go.RowKit Go.Deep

theorem zLN(w:World)(g1 c1 g2 c2 R1 R2 B:Nat)(s1 s2:ByteArray)(lo re:Nat)(beg:Bool)(made:Int)(gl o ln cap:Nat)(l:List Pac)(hrd:RdS 17 acC w [] (.slice (some ⟨gl,o,none⟩) ln cap) l)(hln:ln=l.length)(cc:Nat->Value)(u12 u21 u22 u23 u24 u25 u26 u27 u28 u29 u30 u31 u32 u33 u34 u35 u36 u37 u38 u142 u143 u144 u145 u146 u147 u148 u149 u150 u151 u152 u153 u154 u155 u156 u157 u158 u159 u160 u161 u162 u163 u164 u165 u166 u167 u168 u169 u170 u171 u172 u173 u174 u175 u176 u177 u178 u179 u180 u181 u182 u183 u184 u185 u186 u187 u188 u189 u190 u191 u192 u193 u194 u195 u196 u197 u198 u199 u200 u201 u202 u203 u204 u205 u206 u207 u208 u209 u210 u211 u212 u213 u214 u215 u216 u217 u218 u219 u220 u221 u222 u223 u224 u225 u226 u227 u228 u229 u230 u231 u232 u233 u234 u235 u236 u237 u238 u239 u240 u241 u242 u243 u244 u245 u246 u247 u248 u249 u250 u251 u252 u253 u254 u255 u256 u257 u258 u259 u260 u261 u262 u263 u264 u265 u266 u267 u268 u269 u270 u271 u272 u273 u274 u275 u276 u277 u278 u279 u280 u281 u282 u283 u284 u285 u286 u287 u288 u289 u290 u291 u292 u293 u294 u295 u296 u297 u298 u299 u300 u301 u302 u303 u304:Value)(i n:Nat)(L:List Nat)(sent:List Mg)(sv:Value)(wr:World)(hpi:PaI w g1 c1 g2 c2 R1 R2 B s1 s2 lo re beg made i n L sent sv wr)(hi:i<ln)(h40:ln<=40)(ak:Nat)(now:Int)(Ab:Option Addr)(cb:Nat)(bs:List UInt8)(an:Nat)(k:Int)(sn r cq:Nat)(x4 x5 x6 x7 x8 x9 x10 x11 x12:ByteArray)(bl:Nat)(hbl:bl=bs.length)(ha:l[i]?=some ⟨ak,now,.slice Ab bl cb,bs,an,⟨k,sn,r,cq,x4,x5,x6,x7,x8,x9,x10,x11,x12⟩⟩)(hfa:zBm w ⟨ak,now,.slice Ab bl cb,bs,an,⟨k,sn,r,cq,x4,x5,x6,x7,x8,x9,x10,x11,x12⟩⟩)(hh:100<bl)(hm1:0<=made)(hm2:made<=1125899906842624)(h1:s1.size<=maxLen)(h2:s2.size<=maxLen)(hlo:lo<4294967296)(hre:re<4294967296)(Q:Exit->Act->World->Prop):Code.wp prog zDL (Exit.then (PWI w g1 c1 g2 c2 R1 R2 B s1 s2 lo re beg made (.slice (some ⟨gl,o,none⟩) ln cap) cc (i+1)) Q) (FRP g1 g2 R1 R2 (.slice (some ⟨gl,o,none⟩) ln cap) sv (i) cc u12 u21 u22 u23 u24 u25 u26 u27 u28 u29 u30 u31 u32 u33 u34 u35 u36 u37 u38 u142 u143 u144 u145 u146 u147 u148 u149 u150 u151 u152 u153 u154 u155 u156 u157 u158 u159 u160 u161 u162 u163 u164 u165 u166 u167 u168 u169 u170 u171 u172 u173 u174 u175 u176 u177 u178 u179 u180 u181 u182 u183 u184 u185 u186 u187 u188 u189 u190 u191 u192 u193 u194 u195 u196 u197 u198 u199 u200 u201 u202 u203 u204 u205 u206 u207 u208 u209 u210 u211 u212 u213 u214 u215 u216 u217 u218 u219 u220 u221 u222 u223 u224 u225 u226 u227 u228 u229 u230 u231 u232 u233 u234 u235 u236 u237 u238 u239 u240 u241 u242 u243 u244 u245 u246 u247 u248 u249 u250 u251 u252 u253 u254 u255 u256 u257 u258 u259 u260 u261 u262 u263 u264 u265 u266 u267 u268 u269 u270 u271 u272 u273 u274 u275 u276 u277 u278 u279 u280 u281 u282 u283 u284 u285 u286 u287 u288 u289 u290 u291 u292 u293 u294 u295 u296 u297 u298 u299 u300 u301 u302 u303 u304) wr:=by
 have hltI:(i:Int)<ln:=by omega
 have HWI:=zAA (show wrap64 ((i:Int)+1)=(i:Int)+1 by unfold wrap64;omega)
 have hcs:=zB2 ha (hrd.only hpi.on (by simp))
 simp only at hcs
 obtain⟨a0,a1,a2,a3,a4,a5,a6,a7,a8,a9,a10,a11,a12,a13,a14,a15,a16⟩:=hcs
 have HST:=zAA hpi
 obtain⟨KA,kl,kc,hpm⟩:=hpi.mem
 have HPM:=zAA hpm
 have HHV:=zAA (fun W=>zBK ⟨k,sn,r,cq,x4,x5,x6,x7,x8,x9,x10,x11,x12⟩ 600 W)
 unfold zAn Mg.cells at HHV
 simp only at HHV
 obtain⟨hbr,hmF,han⟩:=hfa
 simp only at hbr hmF han
 have HBR:=zAA hbr
 have HMF:=zAA hmF
 have HAN:=zAA han
 have HE1:=zAA (fun(nn:Nat) W h=>zAm W g1 c1 s1 s2 lo re beg made nn none 0 0 now h hm1 hm2)
 have HE2:=zAA (fun A a b W h=>zAm W g2 c2 s2 s1 re lo (!beg) made 0 A a b now h hm1 hm2)
 unfold zAn at HE1 HE2
 simp only[show((0:Nat):Int)=0 from rfl]at HE2
 have q100:(100:Int)<bl:=by omega
 clear ha hbr hmF han hrd hpi hpm hbl hln hh hm1 hm2 h1 h2 hlo hre h40
 unfold FRP
 conv=>arg 2;whnf
 go_upto_region 17 with fail
 (iterate 11 go_step)
 have hrg:=zBa a0 a1 a2 a3 a4 a5 a6 a7 a8 a9 a10 a11 a12 a13 a14 a15 a16
 refine wp_load_mid 57 (.tmp 150) rfl gl (o+i*17) rfl _ _ hrg underlying57 rfl (by kernel_rfl) ?_
 clear hrg
 clear a0 a1 a2 a3 a4 a5 a6 a7 a8 a9 a10 a11 a12 a13 a14 a15 a16
 (iterate 5 go_step)
 have HGL:=zAA (And.intro (Blk.lt HPM.out.p) (And.intro (WinSet.lt HPM.out.qw) (And.intro (Blk.lt HPM.out.m) (Blk.lt HPM.out.k))))
 have HA0:=zAA (Blk.new wr 57 #[.int .u8 0,.int .i64 0,.slice none 0 0,.int .u64 0,.int .i64 0,.int .u32 0,.int .u32 0,.int .u64 0,.string ⟨#[]⟩,.string ⟨#[]⟩,.string ⟨#[]⟩,.string ⟨#[]⟩,.string ⟨#[]⟩,.string ⟨#[]⟩,.string ⟨#[]⟩,.string ⟨#[]⟩,.string ⟨#[]⟩])
 refine wp_store_mid 57 (.tmp 21) (.tmp 151) rfl wr.heap.size 0 #[.int .u8 (ak:Nat),.int .i64 now,.slice Ab bl cb,.int .u64 (an:Nat),.int .i64 k,.int .u32 (sn:Nat),.int .u32 (r:Nat),.int .u64 (cq:Nat),.string x4,.string x5,.string x6,.string x7,.string x8,.string x9,.string x10,.string x11,.string x12] rfl rfl (zAM HA0.out 17 rfl) (by kernel_rfl) (by simp[Value.oneCell']) ?_
 have HA:=zAA (show Blk ((wr.alloc (.cells #[.int .u8 0,.int .i64 0,.slice none 0 0,.int .u64 0,.int .i64 0,.int .u32 0,.int .u32 0,.int .u64 0,.string ⟨#[]⟩,.string ⟨#[]⟩,.string ⟨#[]⟩,.string ⟨#[]⟩,.string ⟨#[]⟩,.string ⟨#[]⟩,.string ⟨#[]⟩,.string ⟨#[]⟩,.string ⟨#[]⟩] 57)).setCells wr.heap.size 0 [.int .u8 (ak:Nat),.int .i64 now,.slice Ab bl cb,.int .u64 (an:Nat),.int .i64 k,.int .u32 (sn:Nat),.int .u32 (r:Nat),.int .u64 (cq:Nat),.string x4,.string x5,.string x6,.string x7,.string x8,.string x9,.string x10,.string x11,.string x12]) wr.heap.size 57 #[.int .u8 (ak:Nat),.int .i64 now,.slice Ab bl cb,.int .u64 (an:Nat),.int .i64 k,.int .u32 (sn:Nat),.int .u32 (r:Nat),.int .u64 (cq:Nat),.string x4,.string x5,.string x6,.string x7,.string x8,.string x9,.string x10,.string x11,.string x12]from zAJ HA0.out [.int .u8 (ak:Nat),.int .i64 now,.slice Ab bl cb,.int .u64 (an:Nat),.int .i64 k,.int .u32 (sn:Nat),.int .u32 (r:Nat),.int .u64 (cq:Nat),.string x4,.string x5,.string x6,.string x7,.string x8,.string x9,.string x10,.string x11,.string x12] rfl)
 have hoa:=zAL ((Only.refl [] wr).alloc (.cells #[.int .u8 0,.int .i64 0,.slice none 0 0,.int .u64 0,.int .i64 0,.int .u32 0,.int .u32 0,.int .u64 0,.string ⟨#[]⟩,.string ⟨#[]⟩,.string ⟨#[]⟩,.string ⟨#[]⟩,.string ⟨#[]⟩,.string ⟨#[]⟩,.string ⟨#[]⟩,.string ⟨#[]⟩,.string ⟨#[]⟩] 57)) (Nat.le_refl _) [.int .u8 (ak:Nat),.int .i64 now,.slice Ab bl cb,.int .u64 (an:Nat),.int .i64 k,.int .u32 (sn:Nat),.int .u32 (r:Nat),.int .u64 (cq:Nat),.string x4,.string x5,.string x6,.string x7,.string x8,.string x9,.string x10,.string x11,.string x12]
 replace HPM:=zAA (HPM.out.only hoa)
 clear hoa HA0
 obtain⟨G,hG⟩:∃q,q=wr.heap.size:=⟨_,rfl⟩
 rw[<-hG]at HA HPM HGL ⊢
 generalize ((wr.alloc (.cells #[.int .u8 0,.int .i64 0,.slice none 0 0,.int .u64 0,.int .i64 0,.int .u32 0,.int .u32 0,.int .u64 0,.string ⟨#[]⟩,.string ⟨#[]⟩,.string ⟨#[]⟩,.string ⟨#[]⟩,.string ⟨#[]⟩,.string ⟨#[]⟩,.string ⟨#[]⟩,.string ⟨#[]⟩,.string ⟨#[]⟩] 57)).setCells G 0 [.int .u8 (ak:Nat),.int .i64 now,.slice Ab bl cb,.int .u64 (an:Nat),.int .i64 k,.int .u32 (sn:Nat),.int .u32 (r:Nat),.int .u64 (cq:Nat),.string x4,.string x5,.string x6,.string x7,.string x8,.string x9,.string x10,.string x11,.string x12])=x0 at *
 clear hG
 go_upto_region 18 with fail
 obtain⟨a0,a1,a2,a3,a4,a5,a6,a7,a8,a9,a10,a11,a12,a13,a14,a15,a16⟩:=zAH HA.out
 obtain⟨m0,m1,m2,m3,m4,m5,m6,m7⟩:=zAB HPM.out.m
 obtain⟨k0,k1,k2,k3,k4,k5,k6,k7⟩:=zAB HPM.out.k
 go_wp2_with (first
  | (go_at_call 28;refine(HHV.out _).mono ?_;rintro e2 x1 ⟨rfl,ho⟩;replace HA:=zAA (HA.out.only ho (by simp));replace HPM:=zAA (HPM.out.only ho);clear ho;clear a0 a1 a2 a3 a4 a5 a6 a7 a8 a9 a10 a11 a12 a13 a14 a15 a16 m0 m1 m2 m3 m4 m5 m6 m7 k0 k1 k2 k3 k4 k5 k6 k7;obtain⟨a0,a1,a2,a3,a4,a5,a6,a7,a8,a9,a10,a11,a12,a13,a14,a15,a16⟩:=zAH HA.out;obtain⟨m0,m1,m2,m3,m4,m5,m6,m7⟩:=zAB HPM.out.m;obtain⟨k0,k1,k2,k3,k4,k5,k6,k7⟩:=zAB HPM.out.k))
 unfold PWI
 (try rw[HWI.out])
 rw[show((i+1:Nat):Int)=(i:Int)+1 from rfl]
 exact⟨_,_,_,_,_,_,_,_,_,_,_,_,_,_,_,_,_,_,_,_,_,_,_,_,_,_,_,_,_,_,_,_,_,_,_,_,_,_,_,_,_,_,_,_,_,_,_,_,_,_,_,_,_,_,_,_,_,_,_,_,_,_,_,_,_,_,_,_,_,_,_,_,_,_,_,_,_,_,_,_,_,_,_,_,_,_,_,_,_,_,_,_,_,_,_,_,_,_,_,_,_,_,_,_,_,_,_,_,_,_,_,_,_,_,_,_,_,_,_,_,_,_,_,_,_,_,_,_,_,_,_,_,_,_,_,_,_,_,_,_,_,_,_,_,_,_,_,_,_,_,_,_,_,_,_,_,_,_,_,_,_,_,_,_,_,_,_,_,_,_,_,_,_,_,_,_,_,_,_,_,_,_,n,L,sent,sv,rfl,HPM.out.back HST.out.n2 (Nat.le_succ_of_le HST.out.len) (Nat.le_succ_of_le HST.out.sl) HST.out.inc HST.out.lts HST.out.fine HST.out.tw,HST.out.tw.only HPM.out.on (by simp)⟩
theorem zJ9(w:World)(g1 c1 g2 c2 R1 R2 B:Nat)(s1 s2:ByteArray)(lo re:Nat)(beg:Bool)(made:Int)(gl o ln cap:Nat)(l:List Pac)(hrd:RdS 17 acC w [] (.slice (some ⟨gl,o,none⟩) ln cap) l)(hln:ln=l.length)(cc:Nat->Value)(u12 u21 u22 u23 u24 u25 u26 u27 u28 u29 u30 u31 u32 u33 u34 u35 u36 u37 u38 u142 u143 u144 u145 u146 u147 u148 u149 u150 u151 u152 u153 u154 u155 u156 u157 u158 u159 u160 u161 u162 u163 u164 u165 u166 u167 u168 u169 u170 u171 u172 u173 u174 u175 u176 u177 u178 u179 u180 u181 u182 u183 u184 u185 u186 u187 u188 u189 u190 u191 u192 u193 u194 u195 u196 u197 u198 u199 u200 u201 u202 u203 u204 u205 u206 u207 u208 u209 u210 u211 u212 u213 u214 u215 u216 u217 u218 u219 u220 u221 u222 u223 u224 u225 u226 u227 u228 u229 u230 u231 u232 u233 u234 u235 u236 u237 u238 u239 u240 u241 u242 u243 u244 u245 u246 u247 u248 u249 u250 u251 u252 u253 u254 u255 u256 u257 u258 u259 u260 u261 u262 u263 u264 u265 u266 u267 u268 u269 u270 u271 u272 u273 u274 u275 u276 u277 u278 u279 u280 u281 u282 u283 u284 u285 u286 u287 u288 u289 u290 u291 u292 u293 u294 u295 u296 u297 u298 u299 u300 u301 u302 u303 u304:Value)(i n:Nat)(L:List Nat)(sent:List Mg)(sv:Value)(wr:World)(hpi:PaI w g1 c1 g2 c2 R1 R2 B s1 s2 lo re beg made i n L sent sv wr)(hi:i<ln)(h40:ln<=40)(ak:Nat)(now:Int)(Ab:Option Addr)(cb:Nat)(bs:List UInt8)(an:Nat)(k:Int)(sn r cq:Nat)(x4 x5 x6 x7 x8 x9 x10 x11 x12:ByteArray)(bl:Nat)(hbl:bl=bs.length)(ha:l[i]?=some ⟨ak,now,.slice Ab bl cb,bs,an,⟨k,sn,r,cq,x4,x5,x6,x7,x8,x9,x10,x11,x12⟩⟩)(hfa:zBm w ⟨ak,now,.slice Ab bl cb,bs,an,⟨k,sn,r,cq,x4,x5,x6,x7,x8,x9,x10,x11,x12⟩⟩)(hh:¬100<bl)(hv:zCL ⟨k,sn,r,cq,x4,x5,x6,x7,x8,x9,x10,x11,x12⟩ 600=true)(hm1:0<=made)(hm2:made<=1125899906842624)(h1:s1.size<=maxLen)(h2:s2.size<=maxLen)(hlo:lo<4294967296)(hre:re<4294967296)(Q:Exit->Act->World->Prop):Code.wp prog zDL (Exit.then (PWI w g1 c1 g2 c2 R1 R2 B s1 s2 lo re beg made (.slice (some ⟨gl,o,none⟩) ln cap) cc (i+1)) Q) (FRP g1 g2 R1 R2 (.slice (some ⟨gl,o,none⟩) ln cap) sv (i) cc u12 u21 u22 u23 u24 u25 u26 u27 u28 u29 u30 u31 u32 u33 u34 u35 u36 u37 u38 u142 u143 u144 u145 u146 u147 u148 u149 u150 u151 u152 u153 u154 u155 u156 u157 u158 u159 u160 u161 u162 u163 u164 u165 u166 u167 u168 u169 u170 u171 u172 u173 u174 u175 u176 u177 u178 u179 u180 u181 u182 u183 u184 u185 u186 u187 u188 u189 u190 u191 u192 u193 u194 u195 u196 u197 u198 u199 u200 u201 u202 u203 u204 u205 u206 u207 u208 u209 u210 u211 u212 u213 u214 u215 u216 u217 u218 u219 u220 u221 u222 u223 u224 u225 u226 u227 u228 u229 u230 u231 u232 u233 u234 u235 u236 u237 u238 u239 u240 u241 u242 u243 u244 u245 u246 u247 u248 u249 u250 u251 u252 u253 u254 u255 u256 u257 u258 u259 u260 u261 u262 u263 u264 u265 u266 u267 u268 u269 u270 u271 u272 u273 u274 u275 u276 u277 u278 u279 u280 u281 u282 u283 u284 u285 u286 u287 u288 u289 u290 u291 u292 u293 u294 u295 u296 u297 u298 u299 u300 u301 u302 u303 u304) wr:=by
 have hltI:(i:Int)<ln:=by omega
 have HWI:=zAA (show wrap64 ((i:Int)+1)=(i:Int)+1 by unfold wrap64;omega)
 have hcs:=zB2 ha (hrd.only hpi.on (by simp))
 simp only at hcs
 obtain⟨a0,a1,a2,a3,a4,a5,a6,a7,a8,a9,a10,a11,a12,a13,a14,a15,a16⟩:=hcs
 have HST:=zAA hpi
 obtain⟨KA,kl,kc,hpm⟩:=hpi.mem
 have HPM:=zAA hpm
 have HHV:=zAA (fun W=>zBK ⟨k,sn,r,cq,x4,x5,x6,x7,x8,x9,x10,x11,x12⟩ 600 W)
 unfold zAn Mg.cells at HHV
 simp only at HHV
 rw[hv]at HHV
 obtain⟨hbr,hmF,han⟩:=hfa
 simp only at hbr hmF han
 have HBR:=zAA hbr
 have HMF:=zAA hmF
 have HAN:=zAA han
 have HE1:=zAA (fun(nn:Nat) W h=>zAm W g1 c1 s1 s2 lo re beg made nn none 0 0 now h hm1 hm2)
 have HE2:=zAA (fun A a b W h=>zAm W g2 c2 s2 s1 re lo (!beg) made 0 A a b now h hm1 hm2)
 unfold zAn at HE1 HE2
 simp only[show((0:Nat):Int)=0 from rfl]at HE2
 have q100:¬(100:Int)<bl:=by omega
 clear ha hbr hmF han hrd hpi hpm hbl hln hh hv hm1 hm2 h1 h2 hlo hre h40
 unfold FRP
 conv=>arg 2;whnf
 go_upto_region 17 with fail
 (iterate 11 go_step)
 have hrg:=zBa a0 a1 a2 a3 a4 a5 a6 a7 a8 a9 a10 a11 a12 a13 a14 a15 a16
 refine wp_load_mid 57 (.tmp 150) rfl gl (o+i*17) rfl _ _ hrg underlying57 rfl (by kernel_rfl) ?_
 clear hrg
 clear a0 a1 a2 a3 a4 a5 a6 a7 a8 a9 a10 a11 a12 a13 a14 a15 a16
 (iterate 5 go_step)
 have HGL:=zAA (And.intro (Blk.lt HPM.out.p) (And.intro (WinSet.lt HPM.out.qw) (And.intro (Blk.lt HPM.out.m) (Blk.lt HPM.out.k))))
 have HA0:=zAA (Blk.new wr 57 #[.int .u8 0,.int .i64 0,.slice none 0 0,.int .u64 0,.int .i64 0,.int .u32 0,.int .u32 0,.int .u64 0,.string ⟨#[]⟩,.string ⟨#[]⟩,.string ⟨#[]⟩,.string ⟨#[]⟩,.string ⟨#[]⟩,.string ⟨#[]⟩,.string ⟨#[]⟩,.string ⟨#[]⟩,.string ⟨#[]⟩])
 refine wp_store_mid 57 (.tmp 21) (.tmp 151) rfl wr.heap.size 0 #[.int .u8 (ak:Nat),.int .i64 now,.slice Ab bl cb,.int .u64 (an:Nat),.int .i64 k,.int .u32 (sn:Nat),.int .u32 (r:Nat),.int .u64 (cq:Nat),.string x4,.string x5,.string x6,.string x7,.string x8,.string x9,.string x10,.string x11,.string x12] rfl rfl (zAM HA0.out 17 rfl) (by kernel_rfl) (by simp[Value.oneCell']) ?_
 have HA:=zAA (show Blk ((wr.alloc (.cells #[.int .u8 0,.int .i64 0,.slice none 0 0,.int .u64 0,.int .i64 0,.int .u32 0,.int .u32 0,.int .u64 0,.string ⟨#[]⟩,.string ⟨#[]⟩,.string ⟨#[]⟩,.string ⟨#[]⟩,.string ⟨#[]⟩,.string ⟨#[]⟩,.string ⟨#[]⟩,.string ⟨#[]⟩,.string ⟨#[]⟩] 57)).setCells wr.heap.size 0 [.int .u8 (ak:Nat),.int .i64 now,.slice Ab bl cb,.int .u64 (an:Nat),.int .i64 k,.int .u32 (sn:Nat),.int .u32 (r:Nat),.int .u64 (cq:Nat),.string x4,.string x5,.string x6,.string x7,.string x8,.string x9,.string x10,.string x11,.string x12]) wr.heap.size 57 #[.int .u8 (ak:Nat),.int .i64 now,.slice Ab bl cb,.int .u64 (an:Nat),.int .i64 k,.int .u32 (sn:Nat),.int .u32 (r:Nat),.int .u64 (cq:Nat),.string x4,.string x5,.string x6,.string x7,.string x8,.string x9,.string x10,.string x11,.string x12]from zAJ HA0.out [.int .u8 (ak:Nat),.int .i64 now,.slice Ab bl cb,.int .u64 (an:Nat),.int .i64 k,.int .u32 (sn:Nat),.int .u32 (r:Nat),.int .u64 (cq:Nat),.string x4,.string x5,.string x6,.string x7,.string x8,.string x9,.string x10,.string x11,.string x12] rfl)
 have hoa:=zAL ((Only.refl [] wr).alloc (.cells #[.int .u8 0,.int .i64 0,.slice none 0 0,.int .u64 0,.int .i64 0,.int .u32 0,.int .u32 0,.int .u64 0,.string ⟨#[]⟩,.string ⟨#[]⟩,.string ⟨#[]⟩,.string ⟨#[]⟩,.string ⟨#[]⟩,.string ⟨#[]⟩,.string ⟨#[]⟩,.string ⟨#[]⟩,.string ⟨#[]⟩] 57)) (Nat.le_refl _) [.int .u8 (ak:Nat),.int .i64 now,.slice Ab bl cb,.int .u64 (an:Nat),.int .i64 k,.int .u32 (sn:Nat),.int .u32 (r:Nat),.int .u64 (cq:Nat),.string x4,.string x5,.string x6,.string x7,.string x8,.string x9,.string x10,.string x11,.string x12]
 replace HPM:=zAA (HPM.out.only hoa)
 clear hoa HA0
 obtain⟨G,hG⟩:∃q,q=wr.heap.size:=⟨_,rfl⟩
 rw[<-hG]at HA HPM HGL ⊢
 generalize ((wr.alloc (.cells #[.int .u8 0,.int .i64 0,.slice none 0 0,.int .u64 0,.int .i64 0,.int .u32 0,.int .u32 0,.int .u64 0,.string ⟨#[]⟩,.string ⟨#[]⟩,.string ⟨#[]⟩,.string ⟨#[]⟩,.string ⟨#[]⟩,.string ⟨#[]⟩,.string ⟨#[]⟩,.string ⟨#[]⟩,.string ⟨#[]⟩] 57)).setCells G 0 [.int .u8 (ak:Nat),.int .i64 now,.slice Ab bl cb,.int .u64 (an:Nat),.int .i64 k,.int .u32 (sn:Nat),.int .u32 (r:Nat),.int .u64 (cq:Nat),.string x4,.string x5,.string x6,.string x7,.string x8,.string x9,.string x10,.string x11,.string x12])=x0 at *
 clear hG
 go_upto_region 18 with fail
 obtain⟨a0,a1,a2,a3,a4,a5,a6,a7,a8,a9,a10,a11,a12,a13,a14,a15,a16⟩:=zAH HA.out
 obtain⟨m0,m1,m2,m3,m4,m5,m6,m7⟩:=zAB HPM.out.m
 obtain⟨k0,k1,k2,k3,k4,k5,k6,k7⟩:=zAB HPM.out.k
 go_wp2_with (first
  | (go_at_call 28;refine(HHV.out _).mono ?_;rintro e2 x1 ⟨rfl,ho⟩;replace HA:=zAA (HA.out.only ho (by simp));replace HPM:=zAA (HPM.out.only ho);clear ho;clear a0 a1 a2 a3 a4 a5 a6 a7 a8 a9 a10 a11 a12 a13 a14 a15 a16 m0 m1 m2 m3 m4 m5 m6 m7 k0 k1 k2 k3 k4 k5 k6 k7;obtain⟨a0,a1,a2,a3,a4,a5,a6,a7,a8,a9,a10,a11,a12,a13,a14,a15,a16⟩:=zAH HA.out;obtain⟨m0,m1,m2,m3,m4,m5,m6,m7⟩:=zAB HPM.out.m;obtain⟨k0,k1,k2,k3,k4,k5,k6,k7⟩:=zAB HPM.out.k))
 unfold PWI
 (try rw[HWI.out])
 rw[show((i+1:Nat):Int)=(i:Int)+1 from rfl]
 exact⟨_,_,_,_,_,_,_,_,_,_,_,_,_,_,_,_,_,_,_,_,_,_,_,_,_,_,_,_,_,_,_,_,_,_,_,_,_,_,_,_,_,_,_,_,_,_,_,_,_,_,_,_,_,_,_,_,_,_,_,_,_,_,_,_,_,_,_,_,_,_,_,_,_,_,_,_,_,_,_,_,_,_,_,_,_,_,_,_,_,_,_,_,_,_,_,_,_,_,_,_,_,_,_,_,_,_,_,_,_,_,_,_,_,_,_,_,_,_,_,_,_,_,_,_,_,_,_,_,_,_,_,_,_,_,_,_,_,_,_,_,_,_,_,_,_,_,_,_,_,_,_,_,_,_,_,_,_,_,_,_,_,_,_,_,_,_,_,_,_,_,_,_,_,_,_,_,_,_,_,_,_,_,n,L,sent,sv,rfl,HPM.out.back HST.out.n2 (Nat.le_succ_of_le HST.out.len) (Nat.le_succ_of_le HST.out.sl) HST.out.inc HST.out.lts HST.out.fine HST.out.tw,HST.out.tw.only HPM.out.on (by simp)⟩
end
section
open Go.Proofs.Tryz
set_option maxHeartbeats 12800000
set_option maxRecDepth 1000000
open Go.RowKit Go.Deep

theorem zLO(w:World)(g1 c1 g2 c2 R1 R2 B:Nat)(s1 s2:ByteArray)(lo re:Nat)(beg:Bool)(made:Int)(gl o ln cap:Nat)(l:List Pac)(hrd:RdS 17 acC w [] (.slice (some ⟨gl,o,none⟩) ln cap) l)(hln:ln=l.length)(cc:Nat->Value)(u12 u21 u22 u23 u24 u25 u26 u27 u28 u29 u30 u31 u32 u33 u34 u35 u36 u37 u38 u142 u143 u144 u145 u146 u147 u148 u149 u150 u151 u152 u153 u154 u155 u156 u157 u158 u159 u160 u161 u162 u163 u164 u165 u166 u167 u168 u169 u170 u171 u172 u173 u174 u175 u176 u177 u178 u179 u180 u181 u182 u183 u184 u185 u186 u187 u188 u189 u190 u191 u192 u193 u194 u195 u196 u197 u198 u199 u200 u201 u202 u203 u204 u205 u206 u207 u208 u209 u210 u211 u212 u213 u214 u215 u216 u217 u218 u219 u220 u221 u222 u223 u224 u225 u226 u227 u228 u229 u230 u231 u232 u233 u234 u235 u236 u237 u238 u239 u240 u241 u242 u243 u244 u245 u246 u247 u248 u249 u250 u251 u252 u253 u254 u255 u256 u257 u258 u259 u260 u261 u262 u263 u264 u265 u266 u267 u268 u269 u270 u271 u272 u273 u274 u275 u276 u277 u278 u279 u280 u281 u282 u283 u284 u285 u286 u287 u288 u289 u290 u291 u292 u293 u294 u295 u296 u297 u298 u299 u300 u301 u302 u303 u304:Value)(i n:Nat)(L:List Nat)(sent:List Mg)(sv:Value)(wr:World)(hpi:PaI w g1 c1 g2 c2 R1 R2 B s1 s2 lo re beg made i n L sent sv wr)(hi:i<ln)(h40:ln<=40)(ak:Nat)(now:Int)(Ab:Option Addr)(cb:Nat)(bs:List UInt8)(an:Nat)(k:Int)(sn r cq:Nat)(x4 x5 x6 x7 x8 x9 x10 x11 x12:ByteArray)(bl:Nat)(hbl:bl=bs.length)(ha:l[i]?=some ⟨ak,now,.slice Ab bl cb,bs,an,⟨k,sn,r,cq,x4,x5,x6,x7,x8,x9,x10,x11,x12⟩⟩)(hfa:zBm w ⟨ak,now,.slice Ab bl cb,bs,an,⟨k,sn,r,cq,x4,x5,x6,x7,x8,x9,x10,x11,x12⟩⟩)(hh:¬100<bl)(hv:zCL ⟨k,sn,r,cq,x4,x5,x6,x7,x8,x9,x10,x11,x12⟩ 600=false)(hm1:0<=made)(hm2:made<=1125899906842624)(h1:s1.size<=maxLen)(h2:s2.size<=maxLen)(hlo:lo<4294967296)(hre:re<4294967296)(hk:4<ak)(Q:Exit->Act->World->Prop):Code.wp prog zDL (Exit.then (PWI w g1 c1 g2 c2 R1 R2 B s1 s2 lo re beg made (.slice (some ⟨gl,o,none⟩) ln cap) cc (i+1)) Q) (FRP g1 g2 R1 R2 (.slice (some ⟨gl,o,none⟩) ln cap) sv (i) cc u12 u21 u22 u23 u24 u25 u26 u27 u28 u29 u30 u31 u32 u33 u34 u35 u36 u37 u38 u142 u143 u144 u145 u146 u147 u148 u149 u150 u151 u152 u153 u154 u155 u156 u157 u158 u159 u160 u161 u162 u163 u164 u165 u166 u167 u168 u169 u170 u171 u172 u173 u174 u175 u176 u177 u178 u179 u180 u181 u182 u183 u184 u185 u186 u187 u188 u189 u190 u191 u192 u193 u194 u195 u196 u197 u198 u199 u200 u201 u202 u203 u204 u205 u206 u207 u208 u209 u210 u211 u212 u213 u214 u215 u216 u217 u218 u219 u220 u221 u222 u223 u224 u225 u226 u227 u228 u229 u230 u231 u232 u233 u234 u235 u236 u237 u238 u239 u240 u241 u242 u243 u244 u245 u246 u247 u248 u249 u250 u251 u252 u253 u254 u255 u256 u257 u258 u259 u260 u261 u262 u263 u264 u265 u266 u267 u268 u269 u270 u271 u272 u273 u274 u275 u276 u277 u278 u279 u280 u281 u282 u283 u284 u285 u286 u287 u288 u289 u290 u291 u292 u293 u294 u295 u296 u297 u298 u299 u300 u301 u302 u303 u304) wr:=by
 have hltI:(i:Int)<ln:=by omega
 have HWI:=zAA (show wrap64 ((i:Int)+1)=(i:Int)+1 by unfold wrap64;omega)
 have hcs:=zB2 ha (hrd.only hpi.on (by simp))
 simp only at hcs
 obtain⟨a0,a1,a2,a3,a4,a5,a6,a7,a8,a9,a10,a11,a12,a13,a14,a15,a16⟩:=hcs
 have HST:=zAA hpi
 obtain⟨KA,kl,kc,hpm⟩:=hpi.mem
 have HPM:=zAA hpm
 have HHV:=zAA (fun W=>zBK ⟨k,sn,r,cq,x4,x5,x6,x7,x8,x9,x10,x11,x12⟩ 600 W)
 unfold zAn Mg.cells at HHV
 simp only at HHV
 rw[hv]at HHV
 obtain⟨hbr,hmF,han⟩:=hfa
 simp only at hbr hmF han
 have HBR:=zAA hbr
 have HMF:=zAA hmF
 have HAN:=zAA han
 have HE1:=zAA (fun(nn:Nat) W h=>zAm W g1 c1 s1 s2 lo re beg made nn none 0 0 now h hm1 hm2)
 have HE2:=zAA (fun A a b W h=>zAm W g2 c2 s2 s1 re lo (!beg) made 0 A a b now h hm1 hm2)
 unfold zAn at HE1 HE2
 simp only[show((0:Nat):Int)=0 from rfl]at HE2
 have e0:((ak:Int)==0)=false:=by rw[beq_eq_false_iff_ne];omega
 have e1:((ak:Int)==1)=false:=by rw[beq_eq_false_iff_ne];omega
 have e2:((ak:Int)==2)=false:=by rw[beq_eq_false_iff_ne];omega
 have e3:((ak:Int)==3)=false:=by rw[beq_eq_false_iff_ne];omega
 have e4:((ak:Int)==4)=false:=by rw[beq_eq_false_iff_ne];omega
 clear hk
 have q100:¬(100:Int)<bl:=by omega
 clear ha hbr hmF han hrd hpi hpm hbl hln hh hv hm1 hm2 h1 h2 hlo hre h40
 unfold FRP
 conv=>arg 2;whnf
 go_upto_region 17 with fail
 (iterate 11 go_step)
 have hrg:=zBa a0 a1 a2 a3 a4 a5 a6 a7 a8 a9 a10 a11 a12 a13 a14 a15 a16
 refine wp_load_mid 57 (.tmp 150) rfl gl (o+i*17) rfl _ _ hrg underlying57 rfl (by kernel_rfl) ?_
 clear hrg
 clear a0 a1 a2 a3 a4 a5 a6 a7 a8 a9 a10 a11 a12 a13 a14 a15 a16
 (iterate 5 go_step)
 have HGL:=zAA (And.intro (Blk.lt HPM.out.p) (And.intro (WinSet.lt HPM.out.qw) (And.intro (Blk.lt HPM.out.m) (Blk.lt HPM.out.k))))
 have HA0:=zAA (Blk.new wr 57 #[.int .u8 0,.int .i64 0,.slice none 0 0,.int .u64 0,.int .i64 0,.int .u32 0,.int .u32 0,.int .u64 0,.string ⟨#[]⟩,.string ⟨#[]⟩,.string ⟨#[]⟩,.string ⟨#[]⟩,.string ⟨#[]⟩,.string ⟨#[]⟩,.string ⟨#[]⟩,.string ⟨#[]⟩,.string ⟨#[]⟩])
 refine wp_store_mid 57 (.tmp 21) (.tmp 151) rfl wr.heap.size 0 #[.int .u8 (ak:Nat),.int .i64 now,.slice Ab bl cb,.int .u64 (an:Nat),.int .i64 k,.int .u32 (sn:Nat),.int .u32 (r:Nat),.int .u64 (cq:Nat),.string x4,.string x5,.string x6,.string x7,.string x8,.string x9,.string x10,.string x11,.string x12] rfl rfl (zAM HA0.out 17 rfl) (by kernel_rfl) (by simp[Value.oneCell']) ?_
 have HA:=zAA (show Blk ((wr.alloc (.cells #[.int .u8 0,.int .i64 0,.slice none 0 0,.int .u64 0,.int .i64 0,.int .u32 0,.int .u32 0,.int .u64 0,.string ⟨#[]⟩,.string ⟨#[]⟩,.string ⟨#[]⟩,.string ⟨#[]⟩,.string ⟨#[]⟩,.string ⟨#[]⟩,.string ⟨#[]⟩,.string ⟨#[]⟩,.string ⟨#[]⟩] 57)).setCells wr.heap.size 0 [.int .u8 (ak:Nat),.int .i64 now,.slice Ab bl cb,.int .u64 (an:Nat),.int .i64 k,.int .u32 (sn:Nat),.int .u32 (r:Nat),.int .u64 (cq:Nat),.string x4,.string x5,.string x6,.string x7,.string x8,.string x9,.string x10,.string x11,.string x12]) wr.heap.size 57 #[.int .u8 (ak:Nat),.int .i64 now,.slice Ab bl cb,.int .u64 (an:Nat),.int .i64 k,.int .u32 (sn:Nat),.int .u32 (r:Nat),.int .u64 (cq:Nat),.string x4,.string x5,.string x6,.string x7,.string x8,.string x9,.string x10,.string x11,.string x12]from zAJ HA0.out [.int .u8 (ak:Nat),.int .i64 now,.slice Ab bl cb,.int .u64 (an:Nat),.int .i64 k,.int .u32 (sn:Nat),.int .u32 (r:Nat),.int .u64 (cq:Nat),.string x4,.string x5,.string x6,.string x7,.string x8,.string x9,.string x10,.string x11,.string x12] rfl)
 have hoa:=zAL ((Only.refl [] wr).alloc (.cells #[.int .u8 0,.int .i64 0,.slice none 0 0,.int .u64 0,.int .i64 0,.int .u32 0,.int .u32 0,.int .u64 0,.string ⟨#[]⟩,.string ⟨#[]⟩,.string ⟨#[]⟩,.string ⟨#[]⟩,.string ⟨#[]⟩,.string ⟨#[]⟩,.string ⟨#[]⟩,.string ⟨#[]⟩,.string ⟨#[]⟩] 57)) (Nat.le_refl _) [.int .u8 (ak:Nat),.int .i64 now,.slice Ab bl cb,.int .u64 (an:Nat),.int .i64 k,.int .u32 (sn:Nat),.int .u32 (r:Nat),.int .u64 (cq:Nat),.string x4,.string x5,.string x6,.string x7,.string x8,.string x9,.string x10,.string x11,.string x12]
 replace HPM:=zAA (HPM.out.only hoa)
 clear hoa HA0
 obtain⟨G,hG⟩:∃q,q=wr.heap.size:=⟨_,rfl⟩
 rw[<-hG]at HA HPM HGL ⊢
 generalize ((wr.alloc (.cells #[.int .u8 0,.int .i64 0,.slice none 0 0,.int .u64 0,.int .i64 0,.int .u32 0,.int .u32 0,.int .u64 0,.string ⟨#[]⟩,.string ⟨#[]⟩,.string ⟨#[]⟩,.string ⟨#[]⟩,.string ⟨#[]⟩,.string ⟨#[]⟩,.string ⟨#[]⟩,.string ⟨#[]⟩,.string ⟨#[]⟩] 57)).setCells G 0 [.int .u8 (ak:Nat),.int .i64 now,.slice Ab bl cb,.int .u64 (an:Nat),.int .i64 k,.int .u32 (sn:Nat),.int .u32 (r:Nat),.int .u64 (cq:Nat),.string x4,.string x5,.string x6,.string x7,.string x8,.string x9,.string x10,.string x11,.string x12])=x0 at *
 clear hG
 go_upto_region 18 with fail
 obtain⟨a0,a1,a2,a3,a4,a5,a6,a7,a8,a9,a10,a11,a12,a13,a14,a15,a16⟩:=zAH HA.out
 obtain⟨m0,m1,m2,m3,m4,m5,m6,m7⟩:=zAB HPM.out.m
 obtain⟨k0,k1,k2,k3,k4,k5,k6,k7⟩:=zAB HPM.out.k
 go_wp2_with (first
  | (go_at_call 28;refine(HHV.out _).mono ?_;rintro e2 x1 ⟨rfl,ho⟩;replace HA:=zAA (HA.out.only ho (by simp));replace HPM:=zAA (HPM.out.only ho);clear ho;clear a0 a1 a2 a3 a4 a5 a6 a7 a8 a9 a10 a11 a12 a13 a14 a15 a16 m0 m1 m2 m3 m4 m5 m6 m7 k0 k1 k2 k3 k4 k5 k6 k7;obtain⟨a0,a1,a2,a3,a4,a5,a6,a7,a8,a9,a10,a11,a12,a13,a14,a15,a16⟩:=zAH HA.out;obtain⟨m0,m1,m2,m3,m4,m5,m6,m7⟩:=zAB HPM.out.m;obtain⟨k0,k1,k2,k3,k4,k5,k6,k7⟩:=zAB HPM.out.k)
  | (go_at_call 35;(with_reducible refine(HE1.out n _ HPM.out.p).mono ?_);rintro e2 y1 ⟨rfl,ho⟩;replace HA:=zAA (HA.out.only ho (by simp));replace HPM:=zAA (HPM.out.only ho);clear ho;clear a0 a1 a2 a3 a4 a5 a6 a7 a8 a9 a10 a11 a12 a13 a14 a15 a16 m0 m1 m2 m3 m4 m5 m6 m7 k0 k1 k2 k3 k4 k5 k6 k7;obtain⟨a0,a1,a2,a3,a4,a5,a6,a7,a8,a9,a10,a11,a12,a13,a14,a15,a16⟩:=zAH HA.out;obtain⟨m0,m1,m2,m3,m4,m5,m6,m7⟩:=zAB HPM.out.m;obtain⟨k0,k1,k2,k3,k4,k5,k6,k7⟩:=zAB HPM.out.k)
  | (go_at_call 35;(with_reducible refine(HE2.out KA kl kc _ HPM.out.q).mono ?_);rintro e2 y2 ⟨rfl,ho⟩;replace HA:=zAA (HA.out.only ho (by simp));replace HPM:=zAA (HPM.out.only ho);clear ho;clear a0 a1 a2 a3 a4 a5 a6 a7 a8 a9 a10 a11 a12 a13 a14 a15 a16 m0 m1 m2 m3 m4 m5 m6 m7 k0 k1 k2 k3 k4 k5 k6 k7;obtain⟨a0,a1,a2,a3,a4,a5,a6,a7,a8,a9,a10,a11,a12,a13,a14,a15,a16⟩:=zAH HA.out;obtain⟨m0,m1,m2,m3,m4,m5,m6,m7⟩:=zAB HPM.out.m;obtain⟨k0,k1,k2,k3,k4,k5,k6,k7⟩:=zAB HPM.out.k))
 unfold PWI
 (try rw[HWI.out])
 rw[show((i+1:Nat):Int)=(i:Int)+1 from rfl]
 exact⟨_,_,_,_,_,_,_,_,_,_,_,_,_,_,_,_,_,_,_,_,_,_,_,_,_,_,_,_,_,_,_,_,_,_,_,_,_,_,_,_,_,_,_,_,_,_,_,_,_,_,_,_,_,_,_,_,_,_,_,_,_,_,_,_,_,_,_,_,_,_,_,_,_,_,_,_,_,_,_,_,_,_,_,_,_,_,_,_,_,_,_,_,_,_,_,_,_,_,_,_,_,_,_,_,_,_,_,_,_,_,_,_,_,_,_,_,_,_,_,_,_,_,_,_,_,_,_,_,_,_,_,_,_,_,_,_,_,_,_,_,_,_,_,_,_,_,_,_,_,_,_,_,_,_,_,_,_,_,_,_,_,_,_,_,_,_,_,_,_,_,_,_,_,_,_,_,_,_,_,_,_,_,n,L,sent,sv,rfl,HPM.out.back HST.out.n2 (Nat.le_succ_of_le HST.out.len) (Nat.le_succ_of_le HST.out.sl) HST.out.inc HST.out.lts HST.out.fine HST.out.tw,HST.out.tw.only HPM.out.on (by simp)⟩
end
section
open Go.RowKit Go.Deep

theorem zFG(re:Nat)(made:Int)(n:Nat)(s:ByteArray)(now:Int)(b:List UInt8)(hn:n<18446744073709551616)(hre:re<4294967296) :
  ((zAv re made n s now b).2.1=0∧(zAv re made n s now b).2.2=n+1∧(zAv re made n s now b).1.c=n∧(zAv re made n s now b).1.Fine∧n+1<18446744073709551616)∨((zAv re made n s now b).2.1≠0∧(zAv re made n s now b).2.2=n):=by
 unfold zAv
 split
 ·exact .inr ⟨by show(2:Int)≠0;decide,rfl⟩
 ·split
  ·exact .inr ⟨by show(10:Int)≠0;decide,rfl⟩
  ·rename_i h
   split
   ·exact .inr ⟨by show(5:Int)≠0;decide,rfl⟩
   ·split
    ·exact .inl ⟨rfl,rfl,rfl,zDp hre hn,by omega⟩
    ·exact .inr ⟨by show(5:Int)≠0;decide,rfl⟩
theorem zHq{sent:List Mg}{m:Mg}{n:Nat}(h1:sent.Pairwise fun a b=>a.c<b.c)(h2:∀x∈sent,x.c<n)(hm:m.c=n):(sent++[m]).Pairwise fun a b=>a.c<b.c:=by
 rw[List.pairwise_append]
 exact⟨h1,List.pairwise_singleton _ _,fun a ha b hb=>by simp at hb;subst hb;rw[hm];exact h2 a ha⟩
theorem zKA{sent:List Mg}{m:Mg}{n:Nat}(h2:∀x∈sent,x.c<n)(hm:m.c=n):∀x∈sent++[m],x.c<n+1:=by
 intro x hx
 rcases List.mem_append.1 hx with hx|hx
 ·have:=h2 x hx;omega
 ·simp at hx;subst hx;omega
theorem zGc{sent:List Mg}{m:Mg}(h2:∀x∈sent,x.Fine)(hm:m.Fine):∀x∈sent++[m],x.Fine:=by
 intro x hx
 rcases List.mem_append.1 hx with hx|hx
 ·exact h2 x hx
 ·simp at hx;subst hx;exact hm
theorem zMT{sent:List Mg}(h:sent.Pairwise fun a b=>a.c<b.c){i j:Nat}(hj:j<i){a b:Mg}(ha:sent[j]?=some a)(hb:sent[i]?=some b):(b.c==a.c)=false:=by
 rw[beq_eq_false_iff_ne]
 obtain⟨h1,rfl⟩:=List.getElem?_eq_some_iff.1 ha
 obtain⟨h2,rfl⟩:=List.getElem?_eq_some_iff.1 hb
 have:=List.pairwise_iff_getElem.1 h j i h1 h2 hj
 omega
theorem zMU(L:List Nat)(c:Nat):(zDy L c).length<=L.length+1:=by
 unfold zDy
 split
 ·simp
 ·omega
theorem zFH(lo:Nat)(made:Int)(s2:ByteArray)(L:List Nat)(now:Int)(m:Mg):(zAj lo made s2 L now m).2.2.length<=L.length+1:=by
 unfold zAj
 repeat' split
 all_goals first|exact Nat.le_succ _|exact zMU _ _
end
end Go.Proofs.YtfipdjlalfpbnaaGreatDoor
