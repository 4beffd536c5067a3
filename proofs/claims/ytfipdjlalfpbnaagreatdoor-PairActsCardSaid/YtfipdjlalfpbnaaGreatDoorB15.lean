/-
  Walks and plain words (texts Ph11). No condition beyond those that each theorem states.
-/
import Derived.Test.YtfipdjlalfpbnaaGreatDoorB09
import Derived.Test.YtfipdjlalfpbnaaGreatDoorB11
import Derived.Test.YtfipdjlalfpbnaaGreatDoorB12
import Derived.Test.YtfipdjlalfpbnaaGreatDoorB14
namespace Go.Proofs.YtfipdjlalfpbnaaGreatDoor
section
open Go.Proofs.Tryz
set_option maxHeartbeats 12800000
set_option maxRecDepth 1000000
open Go.RowKit Go.Deep

theorem zLQ(w:World)(g1 c1 g2 c2 R1 R2 B:Nat)(s1 s2:ByteArray)(lo re:Nat)(beg:Bool)(made:Int)(A:Option Addr)(ln cap:Nat)(l:List Pac)(hrd:RdS 17 acC w [] (.slice A ln cap) l)(hft:∀a∈l,zBm w a)(hln:ln=l.length)(h40:ln<=40)(hm1:0<=made)(hm2:made<=1125899906842624)(h1:s1.size<=maxLen)(h2:s2.size<=maxLen)(hlo:lo<4294967296)(hre:re<4294967296)(cc:Nat->Value)(i:Nat)(hi:i<ln)(a:Act)(wr:World)(hI:PWI w g1 c1 g2 c2 R1 R2 B s1 s2 lo re beg made (.slice A ln cap) cc i a wr)(Q:Exit->Act->World->Prop):Code.wp prog zDL (Exit.then (PWI w g1 c1 g2 c2 R1 R2 B s1 s2 lo re beg made (.slice A ln cap) cc (i+1)) Q) a wr:=by
 unfold PWI at hI
 obtain⟨u12,hI⟩:=hI
 obtain⟨u21,hI⟩:=hI
 obtain⟨u22,hI⟩:=hI
 obtain⟨u23,hI⟩:=hI
 obtain⟨u24,hI⟩:=hI
 obtain⟨u25,hI⟩:=hI
 obtain⟨u26,hI⟩:=hI
 obtain⟨u27,hI⟩:=hI
 obtain⟨u28,hI⟩:=hI
 obtain⟨u29,hI⟩:=hI
 obtain⟨u30,hI⟩:=hI
 obtain⟨u31,hI⟩:=hI
 obtain⟨u32,hI⟩:=hI
 obtain⟨u33,hI⟩:=hI
 obtain⟨u34,hI⟩:=hI
 obtain⟨u35,hI⟩:=hI
 obtain⟨u36,hI⟩:=hI
 obtain⟨u37,hI⟩:=hI
 obtain⟨u38,hI⟩:=hI
 obtain⟨u142,hI⟩:=hI
 obtain⟨u143,hI⟩:=hI
 obtain⟨u144,hI⟩:=hI
 obtain⟨u145,hI⟩:=hI
 obtain⟨u146,hI⟩:=hI
 obtain⟨u147,hI⟩:=hI
 obtain⟨u148,hI⟩:=hI
 obtain⟨u149,hI⟩:=hI
 obtain⟨u150,hI⟩:=hI
 obtain⟨u151,hI⟩:=hI
 obtain⟨u152,hI⟩:=hI
 obtain⟨u153,hI⟩:=hI
 obtain⟨u154,hI⟩:=hI
 obtain⟨u155,hI⟩:=hI
 obtain⟨u156,hI⟩:=hI
 obtain⟨u157,hI⟩:=hI
 obtain⟨u158,hI⟩:=hI
 obtain⟨u159,hI⟩:=hI
 obtain⟨u160,hI⟩:=hI
 obtain⟨u161,hI⟩:=hI
 obtain⟨u162,hI⟩:=hI
 obtain⟨u163,hI⟩:=hI
 obtain⟨u164,hI⟩:=hI
 obtain⟨u165,hI⟩:=hI
 obtain⟨u166,hI⟩:=hI
 obtain⟨u167,hI⟩:=hI
 obtain⟨u168,hI⟩:=hI
 obtain⟨u169,hI⟩:=hI
 obtain⟨u170,hI⟩:=hI
 obtain⟨u171,hI⟩:=hI
 obtain⟨u172,hI⟩:=hI
 obtain⟨u173,hI⟩:=hI
 obtain⟨u174,hI⟩:=hI
 obtain⟨u175,hI⟩:=hI
 obtain⟨u176,hI⟩:=hI
 obtain⟨u177,hI⟩:=hI
 obtain⟨u178,hI⟩:=hI
 obtain⟨u179,hI⟩:=hI
 obtain⟨u180,hI⟩:=hI
 obtain⟨u181,hI⟩:=hI
 obtain⟨u182,hI⟩:=hI
 obtain⟨u183,hI⟩:=hI
 obtain⟨u184,hI⟩:=hI
 obtain⟨u185,hI⟩:=hI
 obtain⟨u186,hI⟩:=hI
 obtain⟨u187,hI⟩:=hI
 obtain⟨u188,hI⟩:=hI
 obtain⟨u189,hI⟩:=hI
 obtain⟨u190,hI⟩:=hI
 obtain⟨u191,hI⟩:=hI
 obtain⟨u192,hI⟩:=hI
 obtain⟨u193,hI⟩:=hI
 obtain⟨u194,hI⟩:=hI
 obtain⟨u195,hI⟩:=hI
 obtain⟨u196,hI⟩:=hI
 obtain⟨u197,hI⟩:=hI
 obtain⟨u198,hI⟩:=hI
 obtain⟨u199,hI⟩:=hI
 obtain⟨u200,hI⟩:=hI
 obtain⟨u201,hI⟩:=hI
 obtain⟨u202,hI⟩:=hI
 obtain⟨u203,hI⟩:=hI
 obtain⟨u204,hI⟩:=hI
 obtain⟨u205,hI⟩:=hI
 obtain⟨u206,hI⟩:=hI
 obtain⟨u207,hI⟩:=hI
 obtain⟨u208,hI⟩:=hI
 obtain⟨u209,hI⟩:=hI
 obtain⟨u210,hI⟩:=hI
 obtain⟨u211,hI⟩:=hI
 obtain⟨u212,hI⟩:=hI
 obtain⟨u213,hI⟩:=hI
 obtain⟨u214,hI⟩:=hI
 obtain⟨u215,hI⟩:=hI
 obtain⟨u216,hI⟩:=hI
 obtain⟨u217,hI⟩:=hI
 obtain⟨u218,hI⟩:=hI
 obtain⟨u219,hI⟩:=hI
 obtain⟨u220,hI⟩:=hI
 obtain⟨u221,hI⟩:=hI
 obtain⟨u222,hI⟩:=hI
 obtain⟨u223,hI⟩:=hI
 obtain⟨u224,hI⟩:=hI
 obtain⟨u225,hI⟩:=hI
 obtain⟨u226,hI⟩:=hI
 obtain⟨u227,hI⟩:=hI
 obtain⟨u228,hI⟩:=hI
 obtain⟨u229,hI⟩:=hI
 obtain⟨u230,hI⟩:=hI
 obtain⟨u231,hI⟩:=hI
 obtain⟨u232,hI⟩:=hI
 obtain⟨u233,hI⟩:=hI
 obtain⟨u234,hI⟩:=hI
 obtain⟨u235,hI⟩:=hI
 obtain⟨u236,hI⟩:=hI
 obtain⟨u237,hI⟩:=hI
 obtain⟨u238,hI⟩:=hI
 obtain⟨u239,hI⟩:=hI
 obtain⟨u240,hI⟩:=hI
 obtain⟨u241,hI⟩:=hI
 obtain⟨u242,hI⟩:=hI
 obtain⟨u243,hI⟩:=hI
 obtain⟨u244,hI⟩:=hI
 obtain⟨u245,hI⟩:=hI
 obtain⟨u246,hI⟩:=hI
 obtain⟨u247,hI⟩:=hI
 obtain⟨u248,hI⟩:=hI
 obtain⟨u249,hI⟩:=hI
 obtain⟨u250,hI⟩:=hI
 obtain⟨u251,hI⟩:=hI
 obtain⟨u252,hI⟩:=hI
 obtain⟨u253,hI⟩:=hI
 obtain⟨u254,hI⟩:=hI
 obtain⟨u255,hI⟩:=hI
 obtain⟨u256,hI⟩:=hI
 obtain⟨u257,hI⟩:=hI
 obtain⟨u258,hI⟩:=hI
 obtain⟨u259,hI⟩:=hI
 obtain⟨u260,hI⟩:=hI
 obtain⟨u261,hI⟩:=hI
 obtain⟨u262,hI⟩:=hI
 obtain⟨u263,hI⟩:=hI
 obtain⟨u264,hI⟩:=hI
 obtain⟨u265,hI⟩:=hI
 obtain⟨u266,hI⟩:=hI
 obtain⟨u267,hI⟩:=hI
 obtain⟨u268,hI⟩:=hI
 obtain⟨u269,hI⟩:=hI
 obtain⟨u270,hI⟩:=hI
 obtain⟨u271,hI⟩:=hI
 obtain⟨u272,hI⟩:=hI
 obtain⟨u273,hI⟩:=hI
 obtain⟨u274,hI⟩:=hI
 obtain⟨u275,hI⟩:=hI
 obtain⟨u276,hI⟩:=hI
 obtain⟨u277,hI⟩:=hI
 obtain⟨u278,hI⟩:=hI
 obtain⟨u279,hI⟩:=hI
 obtain⟨u280,hI⟩:=hI
 obtain⟨u281,hI⟩:=hI
 obtain⟨u282,hI⟩:=hI
 obtain⟨u283,hI⟩:=hI
 obtain⟨u284,hI⟩:=hI
 obtain⟨u285,hI⟩:=hI
 obtain⟨u286,hI⟩:=hI
 obtain⟨u287,hI⟩:=hI
 obtain⟨u288,hI⟩:=hI
 obtain⟨u289,hI⟩:=hI
 obtain⟨u290,hI⟩:=hI
 obtain⟨u291,hI⟩:=hI
 obtain⟨u292,hI⟩:=hI
 obtain⟨u293,hI⟩:=hI
 obtain⟨u294,hI⟩:=hI
 obtain⟨u295,hI⟩:=hI
 obtain⟨u296,hI⟩:=hI
 obtain⟨u297,hI⟩:=hI
 obtain⟨u298,hI⟩:=hI
 obtain⟨u299,hI⟩:=hI
 obtain⟨u300,hI⟩:=hI
 obtain⟨u301,hI⟩:=hI
 obtain⟨u302,hI⟩:=hI
 obtain⟨u303,hI⟩:=hI
 obtain⟨u304,hI⟩:=hI
 obtain⟨n,hI⟩:=hI
 obtain⟨L,hI⟩:=hI
 obtain⟨sent,hI⟩:=hI
 obtain⟨sv,hI⟩:=hI
 obtain⟨hfr,hpi,ht⟩:=hI
 subst hfr
 obtain⟨gl,o,hA,_,hgl⟩:=hrd.addr (by omega)
 subst hA
 obtain⟨ac,ha⟩:∃a,l[i]?=some a:=⟨_,List.getElem?_eq_getElem (by omega)⟩
 have hfa:=hft ac (List.mem_of_getElem? ha)
 obtain⟨ak,now,bv,bs,an,⟨k,sn,r,cq,x4,x5,x6,x7,x8,x9,x10,x11,x12⟩⟩:=ac
 obtain⟨Ab,cb,hbv,_,_⟩:=hfa.1.formb
 simp only at hbv
 subst hbv
 by_cases hh:100<bs.length
 ·exact zLN w g1 c1 g2 c2 R1 R2 B s1 s2 lo re beg made gl o ln cap l hrd hln cc u12 u21 u22 u23 u24 u25 u26 u27 u28 u29 u30 u31 u32 u33 u34 u35 u36 u37 u38 u142 u143 u144 u145 u146 u147 u148 u149 u150 u151 u152 u153 u154 u155 u156 u157 u158 u159 u160 u161 u162 u163 u164 u165 u166 u167 u168 u169 u170 u171 u172 u173 u174 u175 u176 u177 u178 u179 u180 u181 u182 u183 u184 u185 u186 u187 u188 u189 u190 u191 u192 u193 u194 u195 u196 u197 u198 u199 u200 u201 u202 u203 u204 u205 u206 u207 u208 u209 u210 u211 u212 u213 u214 u215 u216 u217 u218 u219 u220 u221 u222 u223 u224 u225 u226 u227 u228 u229 u230 u231 u232 u233 u234 u235 u236 u237 u238 u239 u240 u241 u242 u243 u244 u245 u246 u247 u248 u249 u250 u251 u252 u253 u254 u255 u256 u257 u258 u259 u260 u261 u262 u263 u264 u265 u266 u267 u268 u269 u270 u271 u272 u273 u274 u275 u276 u277 u278 u279 u280 u281 u282 u283 u284 u285 u286 u287 u288 u289 u290 u291 u292 u293 u294 u295 u296 u297 u298 u299 u300 u301 u302 u303 u304 i n L sent sv wr hpi hi h40 ak now Ab cb bs an k sn r cq x4 x5 x6 x7 x8 x9 x10 x11 x12 bs.length rfl ha hfa hh hm1 hm2 h1 h2 hlo hre Q
 cases hv:zCL ⟨k,sn,r,cq,x4,x5,x6,x7,x8,x9,x10,x11,x12⟩ 600 with
 | true=>exact zJ9 w g1 c1 g2 c2 R1 R2 B s1 s2 lo re beg made gl o ln cap l hrd hln cc u12 u21 u22 u23 u24 u25 u26 u27 u28 u29 u30 u31 u32 u33 u34 u35 u36 u37 u38 u142 u143 u144 u145 u146 u147 u148 u149 u150 u151 u152 u153 u154 u155 u156 u157 u158 u159 u160 u161 u162 u163 u164 u165 u166 u167 u168 u169 u170 u171 u172 u173 u174 u175 u176 u177 u178 u179 u180 u181 u182 u183 u184 u185 u186 u187 u188 u189 u190 u191 u192 u193 u194 u195 u196 u197 u198 u199 u200 u201 u202 u203 u204 u205 u206 u207 u208 u209 u210 u211 u212 u213 u214 u215 u216 u217 u218 u219 u220 u221 u222 u223 u224 u225 u226 u227 u228 u229 u230 u231 u232 u233 u234 u235 u236 u237 u238 u239 u240 u241 u242 u243 u244 u245 u246 u247 u248 u249 u250 u251 u252 u253 u254 u255 u256 u257 u258 u259 u260 u261 u262 u263 u264 u265 u266 u267 u268 u269 u270 u271 u272 u273 u274 u275 u276 u277 u278 u279 u280 u281 u282 u283 u284 u285 u286 u287 u288 u289 u290 u291 u292 u293 u294 u295 u296 u297 u298 u299 u300 u301 u302 u303 u304 i n L sent sv wr hpi hi h40 ak now Ab cb bs an k sn r cq x4 x5 x6 x7 x8 x9 x10 x11 x12 bs.length rfl ha hfa hh hv hm1 hm2 h1 h2 hlo hre Q
 | false =>
  by_cases e0:ak=0
  ·rcases zFG re made n s1 now bs hpi.n2 hre with h|h
   ·exact zKC w g1 c1 g2 c2 R1 R2 B s1 s2 lo re beg made gl o ln cap l hrd hln cc u12 u21 u22 u23 u24 u25 u26 u27 u28 u29 u30 u31 u32 u33 u34 u35 u36 u37 u38 u142 u143 u144 u145 u146 u147 u148 u149 u150 u151 u152 u153 u154 u155 u156 u157 u158 u159 u160 u161 u162 u163 u164 u165 u166 u167 u168 u169 u170 u171 u172 u173 u174 u175 u176 u177 u178 u179 u180 u181 u182 u183 u184 u185 u186 u187 u188 u189 u190 u191 u192 u193 u194 u195 u196 u197 u198 u199 u200 u201 u202 u203 u204 u205 u206 u207 u208 u209 u210 u211 u212 u213 u214 u215 u216 u217 u218 u219 u220 u221 u222 u223 u224 u225 u226 u227 u228 u229 u230 u231 u232 u233 u234 u235 u236 u237 u238 u239 u240 u241 u242 u243 u244 u245 u246 u247 u248 u249 u250 u251 u252 u253 u254 u255 u256 u257 u258 u259 u260 u261 u262 u263 u264 u265 u266 u267 u268 u269 u270 u271 u272 u273 u274 u275 u276 u277 u278 u279 u280 u281 u282 u283 u284 u285 u286 u287 u288 u289 u290 u291 u292 u293 u294 u295 u296 u297 u298 u299 u300 u301 u302 u303 u304 i n L sent sv wr hpi hi h40 ak now Ab cb bs an k sn r cq x4 x5 x6 x7 x8 x9 x10 x11 x12 bs.length rfl ha hfa hh hv hm1 hm2 h1 h2 hlo hre e0 h Q
   ·exact zG8 w g1 c1 g2 c2 R1 R2 B s1 s2 lo re beg made gl o ln cap l hrd hln cc u12 u21 u22 u23 u24 u25 u26 u27 u28 u29 u30 u31 u32 u33 u34 u35 u36 u37 u38 u142 u143 u144 u145 u146 u147 u148 u149 u150 u151 u152 u153 u154 u155 u156 u157 u158 u159 u160 u161 u162 u163 u164 u165 u166 u167 u168 u169 u170 u171 u172 u173 u174 u175 u176 u177 u178 u179 u180 u181 u182 u183 u184 u185 u186 u187 u188 u189 u190 u191 u192 u193 u194 u195 u196 u197 u198 u199 u200 u201 u202 u203 u204 u205 u206 u207 u208 u209 u210 u211 u212 u213 u214 u215 u216 u217 u218 u219 u220 u221 u222 u223 u224 u225 u226 u227 u228 u229 u230 u231 u232 u233 u234 u235 u236 u237 u238 u239 u240 u241 u242 u243 u244 u245 u246 u247 u248 u249 u250 u251 u252 u253 u254 u255 u256 u257 u258 u259 u260 u261 u262 u263 u264 u265 u266 u267 u268 u269 u270 u271 u272 u273 u274 u275 u276 u277 u278 u279 u280 u281 u282 u283 u284 u285 u286 u287 u288 u289 u290 u291 u292 u293 u294 u295 u296 u297 u298 u299 u300 u301 u302 u303 u304 i n L sent sv wr hpi hi h40 ak now Ab cb bs an k sn r cq x4 x5 x6 x7 x8 x9 x10 x11 x12 bs.length rfl ha hfa hh hv hm1 hm2 h1 h2 hlo hre e0 h Q
  by_cases e1:ak=1
  ·rcases zFG re made n s1 now bs hpi.n2 hre with h|h
   ·exact zKD w g1 c1 g2 c2 R1 R2 B s1 s2 lo re beg made gl o ln cap l hrd hln cc u12 u21 u22 u23 u24 u25 u26 u27 u28 u29 u30 u31 u32 u33 u34 u35 u36 u37 u38 u142 u143 u144 u145 u146 u147 u148 u149 u150 u151 u152 u153 u154 u155 u156 u157 u158 u159 u160 u161 u162 u163 u164 u165 u166 u167 u168 u169 u170 u171 u172 u173 u174 u175 u176 u177 u178 u179 u180 u181 u182 u183 u184 u185 u186 u187 u188 u189 u190 u191 u192 u193 u194 u195 u196 u197 u198 u199 u200 u201 u202 u203 u204 u205 u206 u207 u208 u209 u210 u211 u212 u213 u214 u215 u216 u217 u218 u219 u220 u221 u222 u223 u224 u225 u226 u227 u228 u229 u230 u231 u232 u233 u234 u235 u236 u237 u238 u239 u240 u241 u242 u243 u244 u245 u246 u247 u248 u249 u250 u251 u252 u253 u254 u255 u256 u257 u258 u259 u260 u261 u262 u263 u264 u265 u266 u267 u268 u269 u270 u271 u272 u273 u274 u275 u276 u277 u278 u279 u280 u281 u282 u283 u284 u285 u286 u287 u288 u289 u290 u291 u292 u293 u294 u295 u296 u297 u298 u299 u300 u301 u302 u303 u304 i n L sent sv wr hpi hi h40 ak now Ab cb bs an k sn r cq x4 x5 x6 x7 x8 x9 x10 x11 x12 bs.length rfl ha hfa hh hv hm1 hm2 h1 h2 hlo hre e1 h Q
   ·exact zG9 w g1 c1 g2 c2 R1 R2 B s1 s2 lo re beg made gl o ln cap l hrd hln cc u12 u21 u22 u23 u24 u25 u26 u27 u28 u29 u30 u31 u32 u33 u34 u35 u36 u37 u38 u142 u143 u144 u145 u146 u147 u148 u149 u150 u151 u152 u153 u154 u155 u156 u157 u158 u159 u160 u161 u162 u163 u164 u165 u166 u167 u168 u169 u170 u171 u172 u173 u174 u175 u176 u177 u178 u179 u180 u181 u182 u183 u184 u185 u186 u187 u188 u189 u190 u191 u192 u193 u194 u195 u196 u197 u198 u199 u200 u201 u202 u203 u204 u205 u206 u207 u208 u209 u210 u211 u212 u213 u214 u215 u216 u217 u218 u219 u220 u221 u222 u223 u224 u225 u226 u227 u228 u229 u230 u231 u232 u233 u234 u235 u236 u237 u238 u239 u240 u241 u242 u243 u244 u245 u246 u247 u248 u249 u250 u251 u252 u253 u254 u255 u256 u257 u258 u259 u260 u261 u262 u263 u264 u265 u266 u267 u268 u269 u270 u271 u272 u273 u274 u275 u276 u277 u278 u279 u280 u281 u282 u283 u284 u285 u286 u287 u288 u289 u290 u291 u292 u293 u294 u295 u296 u297 u298 u299 u300 u301 u302 u303 u304 i n L sent sv wr hpi hi h40 ak now Ab cb bs an k sn r cq x4 x5 x6 x7 x8 x9 x10 x11 x12 bs.length rfl ha hfa hh hv hm1 hm2 h1 h2 hlo hre e1 h Q
  by_cases e2:ak=2
  ·by_cases he:sent=[]
   ·exact zHA w g1 c1 g2 c2 R1 R2 B s1 s2 lo re beg made gl o ln cap l hrd hln cc u12 u21 u22 u23 u24 u25 u26 u27 u28 u29 u30 u31 u32 u33 u34 u35 u36 u37 u38 u142 u143 u144 u145 u146 u147 u148 u149 u150 u151 u152 u153 u154 u155 u156 u157 u158 u159 u160 u161 u162 u163 u164 u165 u166 u167 u168 u169 u170 u171 u172 u173 u174 u175 u176 u177 u178 u179 u180 u181 u182 u183 u184 u185 u186 u187 u188 u189 u190 u191 u192 u193 u194 u195 u196 u197 u198 u199 u200 u201 u202 u203 u204 u205 u206 u207 u208 u209 u210 u211 u212 u213 u214 u215 u216 u217 u218 u219 u220 u221 u222 u223 u224 u225 u226 u227 u228 u229 u230 u231 u232 u233 u234 u235 u236 u237 u238 u239 u240 u241 u242 u243 u244 u245 u246 u247 u248 u249 u250 u251 u252 u253 u254 u255 u256 u257 u258 u259 u260 u261 u262 u263 u264 u265 u266 u267 u268 u269 u270 u271 u272 u273 u274 u275 u276 u277 u278 u279 u280 u281 u282 u283 u284 u285 u286 u287 u288 u289 u290 u291 u292 u293 u294 u295 u296 u297 u298 u299 u300 u301 u302 u303 u304 i n L sent sv wr hpi hi h40 ak now Ab cb bs an k sn r cq x4 x5 x6 x7 x8 x9 x10 x11 x12 bs.length rfl ha hfa hh hv hm1 hm2 h1 h2 hlo hre e2 he Q
   ·exact zKG w g1 c1 g2 c2 R1 R2 B s1 s2 lo re beg made gl o ln cap l hrd hln cc u12 u21 u22 u23 u24 u25 u26 u27 u28 u29 u30 u31 u32 u33 u34 u35 u36 u37 u38 u142 u143 u144 u145 u146 u147 u148 u149 u150 u151 u152 u153 u154 u155 u156 u157 u158 u159 u160 u161 u162 u163 u164 u165 u166 u167 u168 u169 u170 u171 u172 u173 u174 u175 u176 u177 u178 u179 u180 u181 u182 u183 u184 u185 u186 u187 u188 u189 u190 u191 u192 u193 u194 u195 u196 u197 u198 u199 u200 u201 u202 u203 u204 u205 u206 u207 u208 u209 u210 u211 u212 u213 u214 u215 u216 u217 u218 u219 u220 u221 u222 u223 u224 u225 u226 u227 u228 u229 u230 u231 u232 u233 u234 u235 u236 u237 u238 u239 u240 u241 u242 u243 u244 u245 u246 u247 u248 u249 u250 u251 u252 u253 u254 u255 u256 u257 u258 u259 u260 u261 u262 u263 u264 u265 u266 u267 u268 u269 u270 u271 u272 u273 u274 u275 u276 u277 u278 u279 u280 u281 u282 u283 u284 u285 u286 u287 u288 u289 u290 u291 u292 u293 u294 u295 u296 u297 u298 u299 u300 u301 u302 u303 u304 i n L sent sv wr hpi hi h40 ak now Ab cb bs an k sn r cq x4 x5 x6 x7 x8 x9 x10 x11 x12 bs.length rfl ha hfa hh hv hm1 hm2 h1 h2 hlo hre e2 he Q
  by_cases e3:ak=3
  ·by_cases hc:an<n
   ·exact zIc w g1 c1 g2 c2 R1 R2 B s1 s2 lo re beg made gl o ln cap l hrd hln cc u12 u21 u22 u23 u24 u25 u26 u27 u28 u29 u30 u31 u32 u33 u34 u35 u36 u37 u38 u142 u143 u144 u145 u146 u147 u148 u149 u150 u151 u152 u153 u154 u155 u156 u157 u158 u159 u160 u161 u162 u163 u164 u165 u166 u167 u168 u169 u170 u171 u172 u173 u174 u175 u176 u177 u178 u179 u180 u181 u182 u183 u184 u185 u186 u187 u188 u189 u190 u191 u192 u193 u194 u195 u196 u197 u198 u199 u200 u201 u202 u203 u204 u205 u206 u207 u208 u209 u210 u211 u212 u213 u214 u215 u216 u217 u218 u219 u220 u221 u222 u223 u224 u225 u226 u227 u228 u229 u230 u231 u232 u233 u234 u235 u236 u237 u238 u239 u240 u241 u242 u243 u244 u245 u246 u247 u248 u249 u250 u251 u252 u253 u254 u255 u256 u257 u258 u259 u260 u261 u262 u263 u264 u265 u266 u267 u268 u269 u270 u271 u272 u273 u274 u275 u276 u277 u278 u279 u280 u281 u282 u283 u284 u285 u286 u287 u288 u289 u290 u291 u292 u293 u294 u295 u296 u297 u298 u299 u300 u301 u302 u303 u304 i n L sent sv wr hpi hi h40 ak now Ab cb bs an k sn r cq x4 x5 x6 x7 x8 x9 x10 x11 x12 bs.length rfl ha hfa hh hv hm1 hm2 h1 h2 hlo hre e3 hc Q
   ·exact zLP w g1 c1 g2 c2 R1 R2 B s1 s2 lo re beg made gl o ln cap l hrd hln cc u12 u21 u22 u23 u24 u25 u26 u27 u28 u29 u30 u31 u32 u33 u34 u35 u36 u37 u38 u142 u143 u144 u145 u146 u147 u148 u149 u150 u151 u152 u153 u154 u155 u156 u157 u158 u159 u160 u161 u162 u163 u164 u165 u166 u167 u168 u169 u170 u171 u172 u173 u174 u175 u176 u177 u178 u179 u180 u181 u182 u183 u184 u185 u186 u187 u188 u189 u190 u191 u192 u193 u194 u195 u196 u197 u198 u199 u200 u201 u202 u203 u204 u205 u206 u207 u208 u209 u210 u211 u212 u213 u214 u215 u216 u217 u218 u219 u220 u221 u222 u223 u224 u225 u226 u227 u228 u229 u230 u231 u232 u233 u234 u235 u236 u237 u238 u239 u240 u241 u242 u243 u244 u245 u246 u247 u248 u249 u250 u251 u252 u253 u254 u255 u256 u257 u258 u259 u260 u261 u262 u263 u264 u265 u266 u267 u268 u269 u270 u271 u272 u273 u274 u275 u276 u277 u278 u279 u280 u281 u282 u283 u284 u285 u286 u287 u288 u289 u290 u291 u292 u293 u294 u295 u296 u297 u298 u299 u300 u301 u302 u303 u304 i n L sent sv wr hpi hi h40 ak now Ab cb bs an k sn r cq x4 x5 x6 x7 x8 x9 x10 x11 x12 bs.length rfl ha hfa hh hv hm1 hm2 h1 h2 hlo hre e3 hc Q
  by_cases e4:ak=4
  ·exact zKE w g1 c1 g2 c2 R1 R2 B s1 s2 lo re beg made gl o ln cap l hrd hln cc u12 u21 u22 u23 u24 u25 u26 u27 u28 u29 u30 u31 u32 u33 u34 u35 u36 u37 u38 u142 u143 u144 u145 u146 u147 u148 u149 u150 u151 u152 u153 u154 u155 u156 u157 u158 u159 u160 u161 u162 u163 u164 u165 u166 u167 u168 u169 u170 u171 u172 u173 u174 u175 u176 u177 u178 u179 u180 u181 u182 u183 u184 u185 u186 u187 u188 u189 u190 u191 u192 u193 u194 u195 u196 u197 u198 u199 u200 u201 u202 u203 u204 u205 u206 u207 u208 u209 u210 u211 u212 u213 u214 u215 u216 u217 u218 u219 u220 u221 u222 u223 u224 u225 u226 u227 u228 u229 u230 u231 u232 u233 u234 u235 u236 u237 u238 u239 u240 u241 u242 u243 u244 u245 u246 u247 u248 u249 u250 u251 u252 u253 u254 u255 u256 u257 u258 u259 u260 u261 u262 u263 u264 u265 u266 u267 u268 u269 u270 u271 u272 u273 u274 u275 u276 u277 u278 u279 u280 u281 u282 u283 u284 u285 u286 u287 u288 u289 u290 u291 u292 u293 u294 u295 u296 u297 u298 u299 u300 u301 u302 u303 u304 i n L sent sv wr hpi hi h40 ak now Ab cb bs an k sn r cq x4 x5 x6 x7 x8 x9 x10 x11 x12 bs.length rfl ha hfa hh hv hm1 hm2 h1 h2 hlo hre e4 Q
  ·exact zLO w g1 c1 g2 c2 R1 R2 B s1 s2 lo re beg made gl o ln cap l hrd hln cc u12 u21 u22 u23 u24 u25 u26 u27 u28 u29 u30 u31 u32 u33 u34 u35 u36 u37 u38 u142 u143 u144 u145 u146 u147 u148 u149 u150 u151 u152 u153 u154 u155 u156 u157 u158 u159 u160 u161 u162 u163 u164 u165 u166 u167 u168 u169 u170 u171 u172 u173 u174 u175 u176 u177 u178 u179 u180 u181 u182 u183 u184 u185 u186 u187 u188 u189 u190 u191 u192 u193 u194 u195 u196 u197 u198 u199 u200 u201 u202 u203 u204 u205 u206 u207 u208 u209 u210 u211 u212 u213 u214 u215 u216 u217 u218 u219 u220 u221 u222 u223 u224 u225 u226 u227 u228 u229 u230 u231 u232 u233 u234 u235 u236 u237 u238 u239 u240 u241 u242 u243 u244 u245 u246 u247 u248 u249 u250 u251 u252 u253 u254 u255 u256 u257 u258 u259 u260 u261 u262 u263 u264 u265 u266 u267 u268 u269 u270 u271 u272 u273 u274 u275 u276 u277 u278 u279 u280 u281 u282 u283 u284 u285 u286 u287 u288 u289 u290 u291 u292 u293 u294 u295 u296 u297 u298 u299 u300 u301 u302 u303 u304 i n L sent sv wr hpi hi h40 ak now Ab cb bs an k sn r cq x4 x5 x6 x7 x8 x9 x10 x11 x12 bs.length rfl ha hfa hh hv hm1 hm2 h1 h2 hlo hre (by omega) Q
theorem zMW(w:World)(g1 c1 g2 c2 R1 R2 B:Nat)(s1 s2:ByteArray)(lo re:Nat)(beg:Bool)(made:Int)(A:Option Addr)(ln cap:Nat)(l:List Pac)(hrd:RdS 17 acC w [] (.slice A ln cap) l)(hft:∀a∈l,zBm w a)(hln:ln=l.length)(h40:ln<=40)(hm1:0<=made)(hm2:made<=1125899906842624)(h1:s1.size<=maxLen)(h2:s2.size<=maxLen)(hlo:lo<4294967296)(hre:re<4294967296)(d0 d1 d2 d3 d4 d6 d7 d8 d9 d10 d11 d14 d16 d39 d40 d41 d42 d43 d44 d45 d46 d47 d48 d49 d50 d51 d52 d53 d54 d55 d56 d57 d58 d59 d60 d61 d62 d63 d64 d65 d66 d67 d68 d69 d70 d71 d72 d73 d74 d75 d76 d77 d78 d79 d80 d81 d82 d83 d84 d85 d86 d87 d88 d89 d90 d91 d92 d93 d94 d95 d96 d97 d98 d99 d100 d101 d102 d103 d104 d105 d106 d107 d108 d109 d110 d111 d112 d113 d114 d115 d116 d117 d118 d119 d120 d121 d122 d123 d124 d125 d126 d127 d128 d129 d130 d131 d132 d133 d134 d135 d136 d137 d138 d139 d140 d141 d305 d306 d307 d308 d309 d310 d311 d312 d313 d314 d315 d316 d317 d318 d319 d320 d321 d322 d323 d324 d325 d326:Value)(u12 u21 u22 u23 u24 u25 u26 u27 u28 u29 u30 u31 u32 u33 u34 u35 u36 u37 u38 u142 u143 u144 u145 u146 u147 u148 u149 u150 u151 u152 u153 u154 u155 u156 u157 u158 u159 u160 u161 u162 u163 u164 u165 u166 u167 u168 u169 u170 u171 u172 u173 u174 u175 u176 u177 u178 u179 u180 u181 u182 u183 u184 u185 u186 u187 u188 u189 u190 u191 u192 u193 u194 u195 u196 u197 u198 u199 u200 u201 u202 u203 u204 u205 u206 u207 u208 u209 u210 u211 u212 u213 u214 u215 u216 u217 u218 u219 u220 u221 u222 u223 u224 u225 u226 u227 u228 u229 u230 u231 u232 u233 u234 u235 u236 u237 u238 u239 u240 u241 u242 u243 u244 u245 u246 u247 u248 u249 u250 u251 u252 u253 u254 u255 u256 u257 u258 u259 u260 u261 u262 u263 u264 u265 u266 u267 u268 u269 u270 u271 u272 u273 u274 u275 u276 u277 u278 u279 u280 u281 u282 u283 u284 u285 u286 u287 u288 u289 u290 u291 u292 u293 u294 u295 u296 u297 u298 u299 u300 u301 u302 u303 u304:Value)(sv:Value)(wr:World)(hpi:PaI w g1 c1 g2 c2 R1 R2 B s1 s2 lo re beg made 0 0 [] [] sv wr)(ht:Tab wr)(Q:Exit->Act->World->Prop)
  (hex:∀cc a w',PWI w g1 c1 g2 c2 R1 R2 B s1 s2 lo re beg made (.slice A ln cap) cc ln a w'->Q (.exit 0) a w'):Code.wp prog (Code.loop zDL) Q ⟨#[d0,d1,d2,d3,d4,.slice A ln cap,d6,d7,d8,d9,d10,d11,u12,.pointer (some ⟨g1,0,none⟩),d14,.pointer (some ⟨g2,0,none⟩),d16,.pointer (some ⟨R1,0,none⟩),.pointer (some ⟨R2,0,none⟩),sv,.int .i64 0,u21,u22,u23,u24,u25,u26,u27,u28,u29,u30,u31,u32,u33,u34,u35,u36,u37,u38,d39,d40,d41,d42,d43,d44,d45,d46,d47,d48,d49,d50,d51,d52,d53,d54,d55,d56,d57,d58,d59,d60,d61,d62,d63,d64,d65,d66,d67,d68,d69,d70,d71,d72,d73,d74,d75,d76,d77,d78,d79,d80,d81,d82,d83,d84,d85,d86,d87,d88,d89,d90,d91,d92,d93,d94,d95,d96,d97,d98,d99,d100,d101,d102,d103,d104,d105,d106,d107,d108,d109,d110,d111,d112,d113,d114,d115,d116,d117,d118,d119,d120,d121,d122,d123,d124,d125,d126,d127,d128,d129,d130,d131,d132,d133,d134,d135,d136,d137,d138,d139,d140,d141,u142,u143,u144,u145,u146,u147,u148,u149,u150,u151,u152,u153,u154,u155,u156,u157,u158,u159,u160,u161,u162,u163,u164,u165,u166,u167,u168,u169,u170,u171,u172,u173,u174,u175,u176,u177,u178,u179,u180,u181,u182,u183,u184,u185,u186,u187,u188,u189,u190,u191,u192,u193,u194,u195,u196,u197,u198,u199,u200,u201,u202,u203,u204,u205,u206,u207,u208,u209,u210,u211,u212,u213,u214,u215,u216,u217,u218,u219,u220,u221,u222,u223,u224,u225,u226,u227,u228,u229,u230,u231,u232,u233,u234,u235,u236,u237,u238,u239,u240,u241,u242,u243,u244,u245,u246,u247,u248,u249,u250,u251,u252,u253,u254,u255,u256,u257,u258,u259,u260,u261,u262,u263,u264,u265,u266,u267,u268,u269,u270,u271,u272,u273,u274,u275,u276,u277,u278,u279,u280,u281,u282,u283,u284,u285,u286,u287,u288,u289,u290,u291,u292,u293,u294,u295,u296,u297,u298,u299,u300,u301,u302,u303,u304,d305,d306,d307,d308,d309,d310,d311,d312,d313,d314,d315,d316,d317,d318,d319,d320,d321,d322,d323,d324,d325,d326],[]⟩ wr:=by
 obtain⟨cc,hcc⟩:∃cc:Nat->Value,cc 0=d0∧cc 1=d1∧cc 2=d2∧cc 3=d3∧cc 4=d4∧cc 6=d6∧cc 7=d7∧cc 8=d8∧cc 9=d9∧cc 10=d10∧cc 11=d11∧cc 14=d14∧cc 16=d16∧cc 39=d39∧cc 40=d40∧cc 41=d41∧cc 42=d42∧cc 43=d43∧cc 44=d44∧cc 45=d45∧cc 46=d46∧cc 47=d47∧cc 48=d48∧cc 49=d49∧cc 50=d50∧cc 51=d51∧cc 52=d52∧cc 53=d53∧cc 54=d54∧cc 55=d55∧cc 56=d56∧cc 57=d57∧cc 58=d58∧cc 59=d59∧cc 60=d60∧cc 61=d61∧cc 62=d62∧cc 63=d63∧cc 64=d64∧cc 65=d65∧cc 66=d66∧cc 67=d67∧cc 68=d68∧cc 69=d69∧cc 70=d70∧cc 71=d71∧cc 72=d72∧cc 73=d73∧cc 74=d74∧cc 75=d75∧cc 76=d76∧cc 77=d77∧cc 78=d78∧cc 79=d79∧cc 80=d80∧cc 81=d81∧cc 82=d82∧cc 83=d83∧cc 84=d84∧cc 85=d85∧cc 86=d86∧cc 87=d87∧cc 88=d88∧cc 89=d89∧cc 90=d90∧cc 91=d91∧cc 92=d92∧cc 93=d93∧cc 94=d94∧cc 95=d95∧cc 96=d96∧cc 97=d97∧cc 98=d98∧cc 99=d99∧cc 100=d100∧cc 101=d101∧cc 102=d102∧cc 103=d103∧cc 104=d104∧cc 105=d105∧cc 106=d106∧cc 107=d107∧cc 108=d108∧cc 109=d109∧cc 110=d110∧cc 111=d111∧cc 112=d112∧cc 113=d113∧cc 114=d114∧cc 115=d115∧cc 116=d116∧cc 117=d117∧cc 118=d118∧cc 119=d119∧cc 120=d120∧cc 121=d121∧cc 122=d122∧cc 123=d123∧cc 124=d124∧cc 125=d125∧cc 126=d126∧cc 127=d127∧cc 128=d128∧cc 129=d129∧cc 130=d130∧cc 131=d131∧cc 132=d132∧cc 133=d133∧cc 134=d134∧cc 135=d135∧cc 136=d136∧cc 137=d137∧cc 138=d138∧cc 139=d139∧cc 140=d140∧cc 141=d141∧cc 305=d305∧cc 306=d306∧cc 307=d307∧cc 308=d308∧cc 309=d309∧cc 310=d310∧cc 311=d311∧cc 312=d312∧cc 313=d313∧cc 314=d314∧cc 315=d315∧cc 316=d316∧cc 317=d317∧cc 318=d318∧cc 319=d319∧cc 320=d320∧cc 321=d321∧cc 322=d322∧cc 323=d323∧cc 324=d324∧cc 325=d325∧cc 326=d326:=⟨fun k=>(#[d0,d1,d2,d3,d4,undef,d6,d7,d8,d9,d10,d11,undef,undef,d14,undef,d16,undef,undef,undef,undef,undef,undef,undef,undef,undef,undef,undef,undef,undef,undef,undef,undef,undef,undef,undef,undef,undef,undef,d39,d40,d41,d42,d43,d44,d45,d46,d47,d48,d49,d50,d51,d52,d53,d54,d55,d56,d57,d58,d59,d60,d61,d62,d63,d64,d65,d66,d67,d68,d69,d70,d71,d72,d73,d74,d75,d76,d77,d78,d79,d80,d81,d82,d83,d84,d85,d86,d87,d88,d89,d90,d91,d92,d93,d94,d95,d96,d97,d98,d99,d100,d101,d102,d103,d104,d105,d106,d107,d108,d109,d110,d111,d112,d113,d114,d115,d116,d117,d118,d119,d120,d121,d122,d123,d124,d125,d126,d127,d128,d129,d130,d131,d132,d133,d134,d135,d136,d137,d138,d139,d140,d141,undef,undef,undef,undef,undef,undef,undef,undef,undef,undef,undef,undef,undef,undef,undef,undef,undef,undef,undef,undef,undef,undef,undef,undef,undef,undef,undef,undef,undef,undef,undef,undef,undef,undef,undef,undef,undef,undef,undef,undef,undef,undef,undef,undef,undef,undef,undef,undef,undef,undef,undef,undef,undef,undef,undef,undef,undef,undef,undef,undef,undef,undef,undef,undef,undef,undef,undef,undef,undef,undef,undef,undef,undef,undef,undef,undef,undef,undef,undef,undef,undef,undef,undef,undef,undef,undef,undef,undef,undef,undef,undef,undef,undef,undef,undef,undef,undef,undef,undef,undef,undef,undef,undef,undef,undef,undef,undef,undef,undef,undef,undef,undef,undef,undef,undef,undef,undef,undef,undef,undef,undef,undef,undef,undef,undef,undef,undef,undef,undef,undef,undef,undef,undef,undef,undef,undef,undef,undef,undef,undef,undef,undef,undef,undef,undef,undef,undef,undef,undef,undef,undef,undef,undef,undef,undef,undef,undef,undef,undef,undef,undef,undef,undef,d305,d306,d307,d308,d309,d310,d311,d312,d313,d314,d315,d316,d317,d318,d319,d320,d321,d322,d323,d324,d325,d326]:Array Value).getD k undef,rfl,rfl,rfl,rfl,rfl,rfl,rfl,rfl,rfl,rfl,rfl,rfl,rfl,rfl,rfl,rfl,rfl,rfl,rfl,rfl,rfl,rfl,rfl,rfl,rfl,rfl,rfl,rfl,rfl,rfl,rfl,rfl,rfl,rfl,rfl,rfl,rfl,rfl,rfl,rfl,rfl,rfl,rfl,rfl,rfl,rfl,rfl,rfl,rfl,rfl,rfl,rfl,rfl,rfl,rfl,rfl,rfl,rfl,rfl,rfl,rfl,rfl,rfl,rfl,rfl,rfl,rfl,rfl,rfl,rfl,rfl,rfl,rfl,rfl,rfl,rfl,rfl,rfl,rfl,rfl,rfl,rfl,rfl,rfl,rfl,rfl,rfl,rfl,rfl,rfl,rfl,rfl,rfl,rfl,rfl,rfl,rfl,rfl,rfl,rfl,rfl,rfl,rfl,rfl,rfl,rfl,rfl,rfl,rfl,rfl,rfl,rfl,rfl,rfl,rfl,rfl,rfl,rfl,rfl,rfl,rfl,rfl,rfl,rfl,rfl,rfl,rfl,rfl,rfl,rfl,rfl,rfl,rfl,rfl,rfl,rfl,rfl,rfl⟩
 obtain⟨rfl,rfl,rfl,rfl,rfl,rfl,rfl,rfl,rfl,rfl,rfl,rfl,rfl,rfl,rfl,rfl,rfl,rfl,rfl,rfl,rfl,rfl,rfl,rfl,rfl,rfl,rfl,rfl,rfl,rfl,rfl,rfl,rfl,rfl,rfl,rfl,rfl,rfl,rfl,rfl,rfl,rfl,rfl,rfl,rfl,rfl,rfl,rfl,rfl,rfl,rfl,rfl,rfl,rfl,rfl,rfl,rfl,rfl,rfl,rfl,rfl,rfl,rfl,rfl,rfl,rfl,rfl,rfl,rfl,rfl,rfl,rfl,rfl,rfl,rfl,rfl,rfl,rfl,rfl,rfl,rfl,rfl,rfl,rfl,rfl,rfl,rfl,rfl,rfl,rfl,rfl,rfl,rfl,rfl,rfl,rfl,rfl,rfl,rfl,rfl,rfl,rfl,rfl,rfl,rfl,rfl,rfl,rfl,rfl,rfl,rfl,rfl,rfl,rfl,rfl,rfl,rfl,rfl,rfl,rfl,rfl,rfl,rfl,rfl,rfl,rfl,rfl,rfl,rfl,rfl,rfl,rfl,rfl,rfl,rfl,rfl,rfl,rfl⟩:=hcc
 refine wp_loop_ghost (fun m a w'=>∃i,i+m=ln∧PWI w g1 c1 g2 c2 R1 R2 B s1 s2 lo re beg made (.slice A ln cap) cc i a w') ln ⟨0,by omega,?_⟩ ?_
 ·unfold PWI
  exact⟨_,_,_,_,_,_,_,_,_,_,_,_,_,_,_,_,_,_,_,_,_,_,_,_,_,_,_,_,_,_,_,_,_,_,_,_,_,_,_,_,_,_,_,_,_,_,_,_,_,_,_,_,_,_,_,_,_,_,_,_,_,_,_,_,_,_,_,_,_,_,_,_,_,_,_,_,_,_,_,_,_,_,_,_,_,_,_,_,_,_,_,_,_,_,_,_,_,_,_,_,_,_,_,_,_,_,_,_,_,_,_,_,_,_,_,_,_,_,_,_,_,_,_,_,_,_,_,_,_,_,_,_,_,_,_,_,_,_,_,_,_,_,_,_,_,_,_,_,_,_,_,_,_,_,_,_,_,_,_,_,_,_,_,_,_,_,_,_,_,_,_,_,_,_,_,_,_,_,_,_,_,_,0,[],[],sv,rfl,hpi,ht⟩
 ·rintro m a w' ⟨i,him,hI⟩
  by_cases hi:i<ln
  ·refine zGi (zLQ w g1 c1 g2 c2 R1 R2 B s1 s2 lo re beg made A ln cap l hrd hft hln h40 hm1 hm2 h1 h2 hlo hre cc i hi a w' hI Q) ?_
   intro e a2 w2 hq
   cases e with
   | normal=>exact⟨m-1,by omega,i+1,by omega,hq⟩
   | _=>exact hq
  ·have hil:i=ln:=by omega
   rw[hil]at hI
   clear him hi hil
   unfold PWI at hI
   obtain⟨u12,hI⟩:=hI
   obtain⟨u21,hI⟩:=hI
   obtain⟨u22,hI⟩:=hI
   obtain⟨u23,hI⟩:=hI
   obtain⟨u24,hI⟩:=hI
   obtain⟨u25,hI⟩:=hI
   obtain⟨u26,hI⟩:=hI
   obtain⟨u27,hI⟩:=hI
   obtain⟨u28,hI⟩:=hI
   obtain⟨u29,hI⟩:=hI
   obtain⟨u30,hI⟩:=hI
   obtain⟨u31,hI⟩:=hI
   obtain⟨u32,hI⟩:=hI
   obtain⟨u33,hI⟩:=hI
   obtain⟨u34,hI⟩:=hI
   obtain⟨u35,hI⟩:=hI
   obtain⟨u36,hI⟩:=hI
   obtain⟨u37,hI⟩:=hI
   obtain⟨u38,hI⟩:=hI
   obtain⟨u142,hI⟩:=hI
   obtain⟨u143,hI⟩:=hI
   obtain⟨u144,hI⟩:=hI
   obtain⟨u145,hI⟩:=hI
   obtain⟨u146,hI⟩:=hI
   obtain⟨u147,hI⟩:=hI
   obtain⟨u148,hI⟩:=hI
   obtain⟨u149,hI⟩:=hI
   obtain⟨u150,hI⟩:=hI
   obtain⟨u151,hI⟩:=hI
   obtain⟨u152,hI⟩:=hI
   obtain⟨u153,hI⟩:=hI
   obtain⟨u154,hI⟩:=hI
   obtain⟨u155,hI⟩:=hI
   obtain⟨u156,hI⟩:=hI
   obtain⟨u157,hI⟩:=hI
   obtain⟨u158,hI⟩:=hI
   obtain⟨u159,hI⟩:=hI
   obtain⟨u160,hI⟩:=hI
   obtain⟨u161,hI⟩:=hI
   obtain⟨u162,hI⟩:=hI
   obtain⟨u163,hI⟩:=hI
   obtain⟨u164,hI⟩:=hI
   obtain⟨u165,hI⟩:=hI
   obtain⟨u166,hI⟩:=hI
   obtain⟨u167,hI⟩:=hI
   obtain⟨u168,hI⟩:=hI
   obtain⟨u169,hI⟩:=hI
   obtain⟨u170,hI⟩:=hI
   obtain⟨u171,hI⟩:=hI
   obtain⟨u172,hI⟩:=hI
   obtain⟨u173,hI⟩:=hI
   obtain⟨u174,hI⟩:=hI
   obtain⟨u175,hI⟩:=hI
   obtain⟨u176,hI⟩:=hI
   obtain⟨u177,hI⟩:=hI
   obtain⟨u178,hI⟩:=hI
   obtain⟨u179,hI⟩:=hI
   obtain⟨u180,hI⟩:=hI
   obtain⟨u181,hI⟩:=hI
   obtain⟨u182,hI⟩:=hI
   obtain⟨u183,hI⟩:=hI
   obtain⟨u184,hI⟩:=hI
   obtain⟨u185,hI⟩:=hI
   obtain⟨u186,hI⟩:=hI
   obtain⟨u187,hI⟩:=hI
   obtain⟨u188,hI⟩:=hI
   obtain⟨u189,hI⟩:=hI
   obtain⟨u190,hI⟩:=hI
   obtain⟨u191,hI⟩:=hI
   obtain⟨u192,hI⟩:=hI
   obtain⟨u193,hI⟩:=hI
   obtain⟨u194,hI⟩:=hI
   obtain⟨u195,hI⟩:=hI
   obtain⟨u196,hI⟩:=hI
   obtain⟨u197,hI⟩:=hI
   obtain⟨u198,hI⟩:=hI
   obtain⟨u199,hI⟩:=hI
   obtain⟨u200,hI⟩:=hI
   obtain⟨u201,hI⟩:=hI
   obtain⟨u202,hI⟩:=hI
   obtain⟨u203,hI⟩:=hI
   obtain⟨u204,hI⟩:=hI
   obtain⟨u205,hI⟩:=hI
   obtain⟨u206,hI⟩:=hI
   obtain⟨u207,hI⟩:=hI
   obtain⟨u208,hI⟩:=hI
   obtain⟨u209,hI⟩:=hI
   obtain⟨u210,hI⟩:=hI
   obtain⟨u211,hI⟩:=hI
   obtain⟨u212,hI⟩:=hI
   obtain⟨u213,hI⟩:=hI
   obtain⟨u214,hI⟩:=hI
   obtain⟨u215,hI⟩:=hI
   obtain⟨u216,hI⟩:=hI
   obtain⟨u217,hI⟩:=hI
   obtain⟨u218,hI⟩:=hI
   obtain⟨u219,hI⟩:=hI
   obtain⟨u220,hI⟩:=hI
   obtain⟨u221,hI⟩:=hI
   obtain⟨u222,hI⟩:=hI
   obtain⟨u223,hI⟩:=hI
   obtain⟨u224,hI⟩:=hI
   obtain⟨u225,hI⟩:=hI
   obtain⟨u226,hI⟩:=hI
   obtain⟨u227,hI⟩:=hI
   obtain⟨u228,hI⟩:=hI
   obtain⟨u229,hI⟩:=hI
   obtain⟨u230,hI⟩:=hI
   obtain⟨u231,hI⟩:=hI
   obtain⟨u232,hI⟩:=hI
   obtain⟨u233,hI⟩:=hI
   obtain⟨u234,hI⟩:=hI
   obtain⟨u235,hI⟩:=hI
   obtain⟨u236,hI⟩:=hI
   obtain⟨u237,hI⟩:=hI
   obtain⟨u238,hI⟩:=hI
   obtain⟨u239,hI⟩:=hI
   obtain⟨u240,hI⟩:=hI
   obtain⟨u241,hI⟩:=hI
   obtain⟨u242,hI⟩:=hI
   obtain⟨u243,hI⟩:=hI
   obtain⟨u244,hI⟩:=hI
   obtain⟨u245,hI⟩:=hI
   obtain⟨u246,hI⟩:=hI
   obtain⟨u247,hI⟩:=hI
   obtain⟨u248,hI⟩:=hI
   obtain⟨u249,hI⟩:=hI
   obtain⟨u250,hI⟩:=hI
   obtain⟨u251,hI⟩:=hI
   obtain⟨u252,hI⟩:=hI
   obtain⟨u253,hI⟩:=hI
   obtain⟨u254,hI⟩:=hI
   obtain⟨u255,hI⟩:=hI
   obtain⟨u256,hI⟩:=hI
   obtain⟨u257,hI⟩:=hI
   obtain⟨u258,hI⟩:=hI
   obtain⟨u259,hI⟩:=hI
   obtain⟨u260,hI⟩:=hI
   obtain⟨u261,hI⟩:=hI
   obtain⟨u262,hI⟩:=hI
   obtain⟨u263,hI⟩:=hI
   obtain⟨u264,hI⟩:=hI
   obtain⟨u265,hI⟩:=hI
   obtain⟨u266,hI⟩:=hI
   obtain⟨u267,hI⟩:=hI
   obtain⟨u268,hI⟩:=hI
   obtain⟨u269,hI⟩:=hI
   obtain⟨u270,hI⟩:=hI
   obtain⟨u271,hI⟩:=hI
   obtain⟨u272,hI⟩:=hI
   obtain⟨u273,hI⟩:=hI
   obtain⟨u274,hI⟩:=hI
   obtain⟨u275,hI⟩:=hI
   obtain⟨u276,hI⟩:=hI
   obtain⟨u277,hI⟩:=hI
   obtain⟨u278,hI⟩:=hI
   obtain⟨u279,hI⟩:=hI
   obtain⟨u280,hI⟩:=hI
   obtain⟨u281,hI⟩:=hI
   obtain⟨u282,hI⟩:=hI
   obtain⟨u283,hI⟩:=hI
   obtain⟨u284,hI⟩:=hI
   obtain⟨u285,hI⟩:=hI
   obtain⟨u286,hI⟩:=hI
   obtain⟨u287,hI⟩:=hI
   obtain⟨u288,hI⟩:=hI
   obtain⟨u289,hI⟩:=hI
   obtain⟨u290,hI⟩:=hI
   obtain⟨u291,hI⟩:=hI
   obtain⟨u292,hI⟩:=hI
   obtain⟨u293,hI⟩:=hI
   obtain⟨u294,hI⟩:=hI
   obtain⟨u295,hI⟩:=hI
   obtain⟨u296,hI⟩:=hI
   obtain⟨u297,hI⟩:=hI
   obtain⟨u298,hI⟩:=hI
   obtain⟨u299,hI⟩:=hI
   obtain⟨u300,hI⟩:=hI
   obtain⟨u301,hI⟩:=hI
   obtain⟨u302,hI⟩:=hI
   obtain⟨u303,hI⟩:=hI
   obtain⟨u304,hI⟩:=hI
   obtain⟨n,hI⟩:=hI
   obtain⟨L,hI⟩:=hI
   obtain⟨sent,hI⟩:=hI
   obtain⟨sv,hI⟩:=hI
   obtain⟨hfr,hpi,ht⟩:=hI
   subst hfr
   exact zMV w g1 c1 g2 c2 R1 R2 B s1 s2 lo re beg made A ln cap cc u12 u21 u22 u23 u24 u25 u26 u27 u28 u29 u30 u31 u32 u33 u34 u35 u36 u37 u38 u142 u143 u144 u145 u146 u147 u148 u149 u150 u151 u152 u153 u154 u155 u156 u157 u158 u159 u160 u161 u162 u163 u164 u165 u166 u167 u168 u169 u170 u171 u172 u173 u174 u175 u176 u177 u178 u179 u180 u181 u182 u183 u184 u185 u186 u187 u188 u189 u190 u191 u192 u193 u194 u195 u196 u197 u198 u199 u200 u201 u202 u203 u204 u205 u206 u207 u208 u209 u210 u211 u212 u213 u214 u215 u216 u217 u218 u219 u220 u221 u222 u223 u224 u225 u226 u227 u228 u229 u230 u231 u232 u233 u234 u235 u236 u237 u238 u239 u240 u241 u242 u243 u244 u245 u246 u247 u248 u249 u250 u251 u252 u253 u254 u255 u256 u257 u258 u259 u260 u261 u262 u263 u264 u265 u266 u267 u268 u269 u270 u271 u272 u273 u274 u275 u276 u277 u278 u279 u280 u281 u282 u283 u284 u285 u286 u287 u288 u289 u290 u291 u292 u293 u294 u295 u296 u297 u298 u299 u300 u301 u302 u303 u304 n L sent sv w' hpi ht _ Q (hex cc)
end
end Go.Proofs.YtfipdjlalfpbnaaGreatDoor
