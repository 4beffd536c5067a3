/-
  Walks and plain words (texts Ph14). No condition beyond those that each theorem states.
-/
import Derived.Test.YtfipdjlalfpbnaaGreatDoorB15
namespace Go.Proofs.YtfipdjlalfpbnaaGreatDoor
section
open Go.Proofs.Tryz
set_option maxHeartbeats 12800000
set_option maxRecDepth 1000000
open Go.RowKit Go.Deep

theorem zKH{j nl:Nat}(h:j<nl)(hw:wrap64 ((j:Int)+1)=(j:Int)+1):nl-(intOf (.int .i64 (wrap64 ((j:Int)+1)))).toNat<nl-(intOf (.int .i64 (j:Int))).toNat:=by
 rw[hw]
 simp[intOf]
 omega
theorem zLR(w:World)(g1 c1 g2 c2 R1 R2 B:Nat)(s1 s2:ByteArray)(lo re:Nat)(beg:Bool)(made:Int)(A:Option Addr)(ln cap:Nat)(l:List Pac)(hrd:RdS 17 acC w [] (.slice A ln cap) l)(hft:∀a∈l,zBm w a)(hln:ln=l.length)(h40:ln<=40)(hm1:0<=made)(hm2:made<=1125899906842624)(h1:s1.size<=maxLen)(h2:s2.size<=maxLen)(hlo:lo<4294967296)(hre:re<4294967296)(d0 d1 d2 d3 d4 d6 d7 d8 d9 d10 d11 d14 d16 d39 d40 d41 d42 d43 d44 d45 d46 d47 d48 d49 d50 d51 d52 d53 d54 d55 d56 d57 d58 d59 d60 d61 d62 d63 d64 d65 d66 d67 d68 d69 d70 d71 d72 d73 d74 d75 d76 d77 d78 d79 d80 d81 d82 d83 d84 d85 d86 d87 d88 d89 d90 d91 d92 d93 d94 d95 d96 d97 d98 d99 d100 d101 d102 d103 d104 d105 d106 d107 d108 d109 d110 d111 d112 d113 d114 d115 d116 d117 d118 d119 d120 d121 d122 d123 d124 d125 d126 d127 d128 d129 d130 d131 d132 d133 d134 d135 d136 d137 d138 d139 d140 d141 d305 d306 d307 d308 d309 d310 d311 d312 d313 d314 d315 d316 d317 d318 d319 d320 d321 d322 d323 d324 d325 d326:Value)(u12 u21 u22 u23 u24 u25 u26 u27 u28 u29 u30 u31 u32 u33 u34 u35 u36 u37 u38 u142 u143 u144 u145 u146 u147 u148 u149 u150 u151 u152 u153 u154 u155 u156 u157 u158 u159 u160 u161 u162 u163 u164 u165 u166 u167 u168 u169 u170 u171 u172 u173 u174 u175 u176 u177 u178 u179 u180 u181 u182 u183 u184 u185 u186 u187 u188 u189 u190 u191 u192 u193 u194 u195 u196 u197 u198 u199 u200 u201 u202 u203 u204 u205 u206 u207 u208 u209 u210 u211 u212 u213 u214 u215 u216 u217 u218 u219 u220 u221 u222 u223 u224 u225 u226 u227 u228 u229 u230 u231 u232 u233 u234 u235 u236 u237 u238 u239 u240 u241 u242 u243 u244 u245 u246 u247 u248 u249 u250 u251 u252 u253 u254 u255 u256 u257 u258 u259 u260 u261 u262 u263 u264 u265 u266 u267 u268 u269 u270 u271 u272 u273 u274 u275 u276 u277 u278 u279 u280 u281 u282 u283 u284 u285 u286 u287 u288 u289 u290 u291 u292 u293 u294 u295 u296 u297 u298 u299 u300 u301 u302 u303 u304:Value)(sv:Value)(wr:World)(hpi:PaI w g1 c1 g2 c2 R1 R2 B s1 s2 lo re beg made 0 0 [] [] sv wr)(ht:Tab wr)(Q:Exit->Act->World->Prop)(c:Code)(a0:Act)(ha:a0=⟨#[d0,d1,d2,d3,d4,.slice A ln cap,d6,d7,d8,d9,d10,d11,u12,.pointer (some ⟨g1,0,none⟩),d14,.pointer (some ⟨g2,0,none⟩),d16,.pointer (some ⟨R1,0,none⟩),.pointer (some ⟨R2,0,none⟩),sv,.int .i64 0,u21,u22,u23,u24,u25,u26,u27,u28,u29,u30,u31,u32,u33,u34,u35,u36,u37,u38,d39,d40,d41,d42,d43,d44,d45,d46,d47,d48,d49,d50,d51,d52,d53,d54,d55,d56,d57,d58,d59,d60,d61,d62,d63,d64,d65,d66,d67,d68,d69,d70,d71,d72,d73,d74,d75,d76,d77,d78,d79,d80,d81,d82,d83,d84,d85,d86,d87,d88,d89,d90,d91,d92,d93,d94,d95,d96,d97,d98,d99,d100,d101,d102,d103,d104,d105,d106,d107,d108,d109,d110,d111,d112,d113,d114,d115,d116,d117,d118,d119,d120,d121,d122,d123,d124,d125,d126,d127,d128,d129,d130,d131,d132,d133,d134,d135,d136,d137,d138,d139,d140,d141,u142,u143,u144,u145,u146,u147,u148,u149,u150,u151,u152,u153,u154,u155,u156,u157,u158,u159,u160,u161,u162,u163,u164,u165,u166,u167,u168,u169,u170,u171,u172,u173,u174,u175,u176,u177,u178,u179,u180,u181,u182,u183,u184,u185,u186,u187,u188,u189,u190,u191,u192,u193,u194,u195,u196,u197,u198,u199,u200,u201,u202,u203,u204,u205,u206,u207,u208,u209,u210,u211,u212,u213,u214,u215,u216,u217,u218,u219,u220,u221,u222,u223,u224,u225,u226,u227,u228,u229,u230,u231,u232,u233,u234,u235,u236,u237,u238,u239,u240,u241,u242,u243,u244,u245,u246,u247,u248,u249,u250,u251,u252,u253,u254,u255,u256,u257,u258,u259,u260,u261,u262,u263,u264,u265,u266,u267,u268,u269,u270,u271,u272,u273,u274,u275,u276,u277,u278,u279,u280,u281,u282,u283,u284,u285,u286,u287,u288,u289,u290,u291,u292,u293,u294,u295,u296,u297,u298,u299,u300,u301,u302,u303,u304,d305,d306,d307,d308,d309,d310,d311,d312,d313,d314,d315,d316,d317,d318,d319,d320,d321,d322,d323,d324,d325,d326],[]⟩)(hc:zDL=c)
  (hex:∀cc a w',PWI w g1 c1 g2 c2 R1 R2 B s1 s2 lo re beg made (.slice A ln cap) cc ln a w'->Q (.exit 0) a w'):Code.wp prog (Code.loop c) Q a0 wr:=by
 subst ha
 subst hc
 exact zMW w g1 c1 g2 c2 R1 R2 B s1 s2 lo re beg made A ln cap l hrd hft hln h40 hm1 hm2 h1 h2 hlo hre d0 d1 d2 d3 d4 d6 d7 d8 d9 d10 d11 d14 d16 d39 d40 d41 d42 d43 d44 d45 d46 d47 d48 d49 d50 d51 d52 d53 d54 d55 d56 d57 d58 d59 d60 d61 d62 d63 d64 d65 d66 d67 d68 d69 d70 d71 d72 d73 d74 d75 d76 d77 d78 d79 d80 d81 d82 d83 d84 d85 d86 d87 d88 d89 d90 d91 d92 d93 d94 d95 d96 d97 d98 d99 d100 d101 d102 d103 d104 d105 d106 d107 d108 d109 d110 d111 d112 d113 d114 d115 d116 d117 d118 d119 d120 d121 d122 d123 d124 d125 d126 d127 d128 d129 d130 d131 d132 d133 d134 d135 d136 d137 d138 d139 d140 d141 d305 d306 d307 d308 d309 d310 d311 d312 d313 d314 d315 d316 d317 d318 d319 d320 d321 d322 d323 d324 d325 d326 u12 u21 u22 u23 u24 u25 u26 u27 u28 u29 u30 u31 u32 u33 u34 u35 u36 u37 u38 u142 u143 u144 u145 u146 u147 u148 u149 u150 u151 u152 u153 u154 u155 u156 u157 u158 u159 u160 u161 u162 u163 u164 u165 u166 u167 u168 u169 u170 u171 u172 u173 u174 u175 u176 u177 u178 u179 u180 u181 u182 u183 u184 u185 u186 u187 u188 u189 u190 u191 u192 u193 u194 u195 u196 u197 u198 u199 u200 u201 u202 u203 u204 u205 u206 u207 u208 u209 u210 u211 u212 u213 u214 u215 u216 u217 u218 u219 u220 u221 u222 u223 u224 u225 u226 u227 u228 u229 u230 u231 u232 u233 u234 u235 u236 u237 u238 u239 u240 u241 u242 u243 u244 u245 u246 u247 u248 u249 u250 u251 u252 u253 u254 u255 u256 u257 u258 u259 u260 u261 u262 u263 u264 u265 u266 u267 u268 u269 u270 u271 u272 u273 u274 u275 u276 u277 u278 u279 u280 u281 u282 u283 u284 u285 u286 u287 u288 u289 u290 u291 u292 u293 u294 u295 u296 u297 u298 u299 u300 u301 u302 u303 u304 sv wr hpi ht Q hex
theorem zMX(w:World)(s1 s2:ByteArray)(lo re:Nat)(beg:Bool)(made:Int)(A:Option Addr)(ln cap:Nat)(h1:s1.size<=maxLen)(h2:s2.size<=maxLen)(htab:Tab w)(hb0:¬200<s1.size)(hb1:¬200<s2.size)(hb2:¬40<ln)(hk1:zAg s1≠0)(hk2:zAg s2≠0)(hm1:0<=made)(hm2:made<=1125899906842624)(hlo:lo<4294967296)(hre:re<4294967296)(l:List Pac)(hrd:RdS 17 acC w [] (.slice A ln cap) l)(hft:∀a∈l,zBm w a)(hln:ln=l.length):Calls prog 5 #[.agg #[.string s1,.string s2],.int .u32 (lo:Nat),.int .u32 (re:Nat),.bool beg,.int .i64 made,.slice A ln cap] w (zAn true w):=by
 have HAW:=zAA (fun W ht=>zDR W ht)
 unfold zAn at HAW
 have HT:=zAA htab
 have HB:=zAA (Blk.new w 43 #[.string s1,.string s2])
 have HO:=zAA ((Only.refl [] w).alloc (.cells #[.string s1,.string s2] 43))
 replace HT:=zAA (HT.out.only HO.out (by simp))
 have HTW:=zAA htab
 have HN1:=zAA (fun W=>zEE W s1 s2 lo re beg made h1 h2 hk1 hk2 hm1 hm2)
 have HN2:=zAA (fun W=>zEE W s2 s1 re lo (!beg) made h2 h1 hk2 hk1 hm1 hm2)
 unfold zFW at HN1 HN2
 have HI1:=zAA (fun W=>zGb W s1 h1)
 have HI2:=zAA (fun W=>zGb W s2 h2)
 unfold zAn at HI1 HI2
 have q1:¬(200:Int)<s1.size:=by omega
 have q2:¬(200:Int)<s2.size:=by omega
 have H40:=zAA (show ln<=40 from Nat.le_of_not_lt hb2)
 have q3:¬(40:Int)<ln:=by omega
 clear hb0 hb1 hb2
 have HTV:=zAA (show zAc made=true from(zAT made).2 ⟨hm1,hm2⟩)
 rw[decide_eq_true hk1]at HI1
 rw[decide_eq_true hk2]at HI2
 have HM1:=zAA hm1
 have HM2:=zAA hm2
 have HS1:=zAA h1
 have HS2:=zAA h2
 have HLO:=zAA hlo
 have HRE:=zAA hre
 have HRD:=zAA hrd
 have HFT:=zAA hft
 have HLN:=zAA hln
 clear h1 h2 htab hk1 hk2 hm1 hm2 hlo hre hrd hft hln
 go_enter func5,ntmps5
 go_upto_region 1 with fail
 generalize (w.alloc (.cells #[.string s1,.string s2] 43))=v0 at *
 have k0:=HB.out.cell 0;have k1:=HB.out.cell 1;simp at k0 k1
 go_upto_region 12 with (first
  | (go_at_call 25;(refine(HAW.out _ HT.out).mono ?_);rintro e2 w1 ⟨rfl,ho⟩;replace HB:=zAA (HB.out.only ho (by simp));replace HT:=zAA (HT.out.only ho (by simp));replace HO:=zAA (HO.out.trans ho);clear ho k0 k1;have k0:=HB.out.cell 0;have k1:=HB.out.cell 1;simp at k0 k1)
  | (go_at_call 26;(with_reducible refine(HN1.out _).mono ?_);rintro e2 w2 ⟨g1,c1,rfl,hg1,hc1,hgc1,hp1,hw1,ho⟩;have HG1:=zAA (And.intro hg1 (And.intro hc1 hgc1));have HZ1:=zAA HO.out.size;have HP1:=zAA hp1;have HW1:=zAA hw1;clear hg1 hc1 hgc1 hp1 hw1;replace HB:=zAA (HB.out.only ho (by simp));replace HT:=zAA (HT.out.only ho (by simp));replace HO:=zAA (HO.out.trans ho);clear ho k0 k1;have k0:=HB.out.cell 0;have k1:=HB.out.cell 1;simp at k0 k1)
  | (go_at_call 26;(with_reducible refine(HN2.out _).mono ?_);rintro e2 w3 ⟨g2,c2,rfl,hg2,hc2,hgc2,hp2,hw2,ho⟩;have HG2:=zAA (And.intro hg2 (And.intro hc2 hgc2));have HZ2:=zAA HO.out.size;have HLT:=zAA (And.intro (Blk.lt HP1.out) (Blk.lt HW1.out));have HP2:=zAA hp2;have HW2:=zAA hw2;clear hg2 hc2 hgc2 hp2 hw2;replace HB:=zAA (HB.out.only ho (by simp));replace HT:=zAA (HT.out.only ho (by simp));replace HO:=zAA (HO.out.trans ho);replace HP1:=zAA (HP1.out.only ho (by simp));replace HW1:=zAA (HW1.out.only ho (by simp));clear ho k0 k1;have k0:=HB.out.cell 0;have k1:=HB.out.cell 1;simp at k0 k1)
  | (go_at_call 18;(with_reducible refine(HI1.out _).mono ?_);rintro e2 w4 ⟨rfl,ho⟩;replace HB:=zAA (HB.out.only ho (by simp));replace HT:=zAA (HT.out.only ho (by simp));replace HO:=zAA (HO.out.trans ho);replace HP1:=zAA (HP1.out.only ho (by simp));replace HW1:=zAA (HW1.out.only ho (by simp));replace HP2:=zAA (HP2.out.only ho (by simp));replace HW2:=zAA (HW2.out.only ho (by simp));clear ho k0 k1;have k0:=HB.out.cell 0;have k1:=HB.out.cell 1;simp at k0 k1)
  | (go_at_call 18;(with_reducible refine(HI2.out _).mono ?_);rintro e2 w5 ⟨rfl,ho⟩;replace HB:=zAA (HB.out.only ho (by simp));replace HT:=zAA (HT.out.only ho (by simp));replace HO:=zAA (HO.out.trans ho);replace HP1:=zAA (HP1.out.only ho (by simp));replace HW1:=zAA (HW1.out.only ho (by simp));replace HP2:=zAA (HP2.out.only ho (by simp));replace HW2:=zAA (HW2.out.only ho (by simp));clear ho k0 k1;have k0:=HB.out.cell 0;have k1:=HB.out.cell 1;simp at k0 k1)
  | (go_at_call 27;refine(zA4 _ _).mono ?_;rintro e2 w6 ⟨rfl,rfl⟩;rw[HTV.out]))
 have HL5:=zAA (And.intro (Blk.lt HP2.out) (Blk.lt HW2.out))
 have HR1:=zAA (Blk.new w5 53 #[.string s1,.string s2,.int .u32 (lo:Nat),.int .u32 (re:Nat),.bool beg,.int .i64 made,.int .u64 (0:Nat),.slice none 0 0])
 replace HB:=zAA (HB.out.alloc (.cells #[.string s1,.string s2,.int .u32 (lo:Nat),.int .u32 (re:Nat),.bool beg,.int .i64 made,.int .u64 (0:Nat),.slice none 0 0] 53))
 replace HP1:=zAA (HP1.out.alloc (.cells #[.string s1,.string s2,.int .u32 (lo:Nat),.int .u32 (re:Nat),.bool beg,.int .i64 made,.int .u64 (0:Nat),.slice none 0 0] 53))
 replace HW1:=zAA (HW1.out.alloc (.cells #[.string s1,.string s2,.int .u32 (lo:Nat),.int .u32 (re:Nat),.bool beg,.int .i64 made,.int .u64 (0:Nat),.slice none 0 0] 53))
 replace HP2:=zAA (HP2.out.alloc (.cells #[.string s1,.string s2,.int .u32 (lo:Nat),.int .u32 (re:Nat),.bool beg,.int .i64 made,.int .u64 (0:Nat),.slice none 0 0] 53))
 replace HW2:=zAA (HW2.out.alloc (.cells #[.string s1,.string s2,.int .u32 (lo:Nat),.int .u32 (re:Nat),.bool beg,.int .i64 made,.int .u64 (0:Nat),.slice none 0 0] 53))
 have hoa:=(Only.refl [] w5).alloc (.cells #[.string s1,.string s2,.int .u32 (lo:Nat),.int .u32 (re:Nat),.bool beg,.int .i64 made,.int .u64 (0:Nat),.slice none 0 0] 53)
 replace HT:=zAA (HT.out.only hoa (by simp))
 replace HO:=zAA (HO.out.trans hoa)
 clear hoa
 obtain⟨R1,hR1⟩:∃q,q=w5.heap.size:=⟨_,rfl⟩
 have HGR1:=zAA hR1
 rw[<-hR1]at HR1 ⊢
 clear hR1
 generalize (w5.alloc (.cells #[.string s1,.string s2,.int .u32 (lo:Nat),.int .u32 (re:Nat),.bool beg,.int .i64 made,.int .u64 (0:Nat),.slice none 0 0] 53))=v6 at *
 clear k0 k1
 have k0:=HB.out.cell 0;have k1:=HB.out.cell 1;simp at k0 k1
 go_upto_region 13 with fail
 have HL6:=zAA (Blk.lt HR1.out)
 have HR2:=zAA (Blk.new v6 53 #[.string s2,.string s1,.int .u32 (re:Nat),.int .u32 (lo:Nat),.bool !beg,.int .i64 made,.int .u64 (0:Nat),.slice none 0 0])
 replace HB:=zAA (HB.out.alloc (.cells #[.string s2,.string s1,.int .u32 (re:Nat),.int .u32 (lo:Nat),.bool !beg,.int .i64 made,.int .u64 (0:Nat),.slice none 0 0] 53))
 replace HP1:=zAA (HP1.out.alloc (.cells #[.string s2,.string s1,.int .u32 (re:Nat),.int .u32 (lo:Nat),.bool !beg,.int .i64 made,.int .u64 (0:Nat),.slice none 0 0] 53))
 replace HW1:=zAA (HW1.out.alloc (.cells #[.string s2,.string s1,.int .u32 (re:Nat),.int .u32 (lo:Nat),.bool !beg,.int .i64 made,.int .u64 (0:Nat),.slice none 0 0] 53))
 replace HP2:=zAA (HP2.out.alloc (.cells #[.string s2,.string s1,.int .u32 (re:Nat),.int .u32 (lo:Nat),.bool !beg,.int .i64 made,.int .u64 (0:Nat),.slice none 0 0] 53))
 replace HW2:=zAA (HW2.out.alloc (.cells #[.string s2,.string s1,.int .u32 (re:Nat),.int .u32 (lo:Nat),.bool !beg,.int .i64 made,.int .u64 (0:Nat),.slice none 0 0] 53))
 replace HR1:=zAA (HR1.out.alloc (.cells #[.string s2,.string s1,.int .u32 (re:Nat),.int .u32 (lo:Nat),.bool !beg,.int .i64 made,.int .u64 (0:Nat),.slice none 0 0] 53))
 have hoa:=(Only.refl [] v6).alloc (.cells #[.string s2,.string s1,.int .u32 (re:Nat),.int .u32 (lo:Nat),.bool !beg,.int .i64 made,.int .u64 (0:Nat),.slice none 0 0] 53)
 replace HT:=zAA (HT.out.only hoa (by simp))
 replace HO:=zAA (HO.out.trans hoa)
 clear hoa
 obtain⟨R2,hR2⟩:∃q,q=v6.heap.size:=⟨_,rfl⟩
 have HGR2:=zAA hR2
 rw[<-hR2]at HR2 ⊢
 clear hR2
 generalize (v6.alloc (.cells #[.string s2,.string s1,.int .u32 (re:Nat),.int .u32 (lo:Nat),.bool !beg,.int .i64 made,.int .u64 (0:Nat),.slice none 0 0] 53))=v7 at *
 clear k0 k1
 have k0:=HB.out.cell 0;have k1:=HB.out.cell 1;simp at k0 k1
 go_upto_region 14 with fail
 skip
 have hlt6:∀x∈[g1,c1,g2,c2,R1,R2],w.heap.size<=x∧x<v7.heap.size:=by
  have a1:=HG1.out;have a2:=HG2.out;have a3:=HLT.out;have a4:=HL5.out;have a5:=HL6.out;have a6:=HGR1.out;have a7:=HGR2.out;have a8:=Blk.lt HR2.out;have z1:=HZ1.out;have z2:=HZ2.out
  intro x hx
  simp at hx
  omega
 have hnd6:[g1,c1,g2,c2,R1,R2].Nodup:=by
  have a1:=HG1.out;have a2:=HG2.out;have a3:=HLT.out;have a4:=HL5.out;have a5:=HL6.out;have a6:=HGR1.out;have a7:=HGR2.out;have z2:=HZ2.out
  simp
  omega
 have HP0:=zAA (zLM HP1.out HP2.out HW2.out HR1.out HR2.out hlt6 hnd6 HO.out HTW.out)
 obtain⟨B,hB⟩:∃q,q=v7.heap.size:=⟨_,rfl⟩
 rw[<-hB]at HP0
 clear hlt6 hnd6 HZ1 HZ2
 rw[<-hB]
 have HOA:=zAA ((Only.refl [] v7).alloc (.cells #[] 25))
 replace HT:=zAA (HT.out.only HOA.out (by simp))
 clear HOA hB HB HP1 HW1 HP2 HW2 HR1 HR2 HO k0 k1 HN1 HN2 HI1 HI2 HTV HAW HG1 HG2 HLT HL5 HL6 HGR1 HGR2
 generalize (v7.alloc (.cells #[] 25))=v8 at *
 go_wp2_with fail
 apply zLR w g1 c1 g2 c2 R1 R2 B s1 s2 lo re beg made A ln cap l HRD.out HFT.out HLN.out H40.out HM1.out HM2.out HS1.out HS2.out HLO.out HRE.out
 case hpi=>exact HP0.out
 case ht=>exact HT.out
 case ha=>rfl
 case hc=>rfl
 as_aux_lemma =>
  intro cc a wF hI
  unfold PWI at hI
  obtain⟨u12,hI⟩:=hI
  obtain⟨u21,hI⟩:=hI
  obtain⟨u22,hI⟩:=hI
  obtain⟨u23,hI⟩:=hI
  obtain⟨u24,hI⟩:=hI
  obtain⟨u25,hI⟩:=hI
  obtain⟨u26,hI⟩:=hI
  obtain⟨u27,hI⟩:=hI
  obtain⟨u28,hI⟩:=hI
  obtain⟨u29,hI⟩:=hI
  obtain⟨u30,hI⟩:=hI
  obtain⟨u31,hI⟩:=hI
  obtain⟨u32,hI⟩:=hI
  obtain⟨u33,hI⟩:=hI
  obtain⟨u34,hI⟩:=hI
  obtain⟨u35,hI⟩:=hI
  obtain⟨u36,hI⟩:=hI
  obtain⟨u37,hI⟩:=hI
  obtain⟨u38,hI⟩:=hI
  obtain⟨u142,hI⟩:=hI
  obtain⟨u143,hI⟩:=hI
  obtain⟨u144,hI⟩:=hI
  obtain⟨u145,hI⟩:=hI
  obtain⟨u146,hI⟩:=hI
  obtain⟨u147,hI⟩:=hI
  obtain⟨u148,hI⟩:=hI
  obtain⟨u149,hI⟩:=hI
  obtain⟨u150,hI⟩:=hI
  obtain⟨u151,hI⟩:=hI
  obtain⟨u152,hI⟩:=hI
  obtain⟨u153,hI⟩:=hI
  obtain⟨u154,hI⟩:=hI
  obtain⟨u155,hI⟩:=hI
  obtain⟨u156,hI⟩:=hI
  obtain⟨u157,hI⟩:=hI
  obtain⟨u158,hI⟩:=hI
  obtain⟨u159,hI⟩:=hI
  obtain⟨u160,hI⟩:=hI
  obtain⟨u161,hI⟩:=hI
  obtain⟨u162,hI⟩:=hI
  obtain⟨u163,hI⟩:=hI
  obtain⟨u164,hI⟩:=hI
  obtain⟨u165,hI⟩:=hI
  obtain⟨u166,hI⟩:=hI
  obtain⟨u167,hI⟩:=hI
  obtain⟨u168,hI⟩:=hI
  obtain⟨u169,hI⟩:=hI
  obtain⟨u170,hI⟩:=hI
  obtain⟨u171,hI⟩:=hI
  obtain⟨u172,hI⟩:=hI
  obtain⟨u173,hI⟩:=hI
  obtain⟨u174,hI⟩:=hI
  obtain⟨u175,hI⟩:=hI
  obtain⟨u176,hI⟩:=hI
  obtain⟨u177,hI⟩:=hI
  obtain⟨u178,hI⟩:=hI
  obtain⟨u179,hI⟩:=hI
  obtain⟨u180,hI⟩:=hI
  obtain⟨u181,hI⟩:=hI
  obtain⟨u182,hI⟩:=hI
  obtain⟨u183,hI⟩:=hI
  obtain⟨u184,hI⟩:=hI
  obtain⟨u185,hI⟩:=hI
  obtain⟨u186,hI⟩:=hI
  obtain⟨u187,hI⟩:=hI
  obtain⟨u188,hI⟩:=hI
  obtain⟨u189,hI⟩:=hI
  obtain⟨u190,hI⟩:=hI
  obtain⟨u191,hI⟩:=hI
  obtain⟨u192,hI⟩:=hI
  obtain⟨u193,hI⟩:=hI
  obtain⟨u194,hI⟩:=hI
  obtain⟨u195,hI⟩:=hI
  obtain⟨u196,hI⟩:=hI
  obtain⟨u197,hI⟩:=hI
  obtain⟨u198,hI⟩:=hI
  obtain⟨u199,hI⟩:=hI
  obtain⟨u200,hI⟩:=hI
  obtain⟨u201,hI⟩:=hI
  obtain⟨u202,hI⟩:=hI
  obtain⟨u203,hI⟩:=hI
  obtain⟨u204,hI⟩:=hI
  obtain⟨u205,hI⟩:=hI
  obtain⟨u206,hI⟩:=hI
  obtain⟨u207,hI⟩:=hI
  obtain⟨u208,hI⟩:=hI
  obtain⟨u209,hI⟩:=hI
  obtain⟨u210,hI⟩:=hI
  obtain⟨u211,hI⟩:=hI
  obtain⟨u212,hI⟩:=hI
  obtain⟨u213,hI⟩:=hI
  obtain⟨u214,hI⟩:=hI
  obtain⟨u215,hI⟩:=hI
  obtain⟨u216,hI⟩:=hI
  obtain⟨u217,hI⟩:=hI
  obtain⟨u218,hI⟩:=hI
  obtain⟨u219,hI⟩:=hI
  obtain⟨u220,hI⟩:=hI
  obtain⟨u221,hI⟩:=hI
  obtain⟨u222,hI⟩:=hI
  obtain⟨u223,hI⟩:=hI
  obtain⟨u224,hI⟩:=hI
  obtain⟨u225,hI⟩:=hI
  obtain⟨u226,hI⟩:=hI
  obtain⟨u227,hI⟩:=hI
  obtain⟨u228,hI⟩:=hI
  obtain⟨u229,hI⟩:=hI
  obtain⟨u230,hI⟩:=hI
  obtain⟨u231,hI⟩:=hI
  obtain⟨u232,hI⟩:=hI
  obtain⟨u233,hI⟩:=hI
  obtain⟨u234,hI⟩:=hI
  obtain⟨u235,hI⟩:=hI
  obtain⟨u236,hI⟩:=hI
  obtain⟨u237,hI⟩:=hI
  obtain⟨u238,hI⟩:=hI
  obtain⟨u239,hI⟩:=hI
  obtain⟨u240,hI⟩:=hI
  obtain⟨u241,hI⟩:=hI
  obtain⟨u242,hI⟩:=hI
  obtain⟨u243,hI⟩:=hI
  obtain⟨u244,hI⟩:=hI
  obtain⟨u245,hI⟩:=hI
  obtain⟨u246,hI⟩:=hI
  obtain⟨u247,hI⟩:=hI
  obtain⟨u248,hI⟩:=hI
  obtain⟨u249,hI⟩:=hI
  obtain⟨u250,hI⟩:=hI
  obtain⟨u251,hI⟩:=hI
  obtain⟨u252,hI⟩:=hI
  obtain⟨u253,hI⟩:=hI
  obtain⟨u254,hI⟩:=hI
  obtain⟨u255,hI⟩:=hI
  obtain⟨u256,hI⟩:=hI
  obtain⟨u257,hI⟩:=hI
  obtain⟨u258,hI⟩:=hI
  obtain⟨u259,hI⟩:=hI
  obtain⟨u260,hI⟩:=hI
  obtain⟨u261,hI⟩:=hI
  obtain⟨u262,hI⟩:=hI
  obtain⟨u263,hI⟩:=hI
  obtain⟨u264,hI⟩:=hI
  obtain⟨u265,hI⟩:=hI
  obtain⟨u266,hI⟩:=hI
  obtain⟨u267,hI⟩:=hI
  obtain⟨u268,hI⟩:=hI
  obtain⟨u269,hI⟩:=hI
  obtain⟨u270,hI⟩:=hI
  obtain⟨u271,hI⟩:=hI
  obtain⟨u272,hI⟩:=hI
  obtain⟨u273,hI⟩:=hI
  obtain⟨u274,hI⟩:=hI
  obtain⟨u275,hI⟩:=hI
  obtain⟨u276,hI⟩:=hI
  obtain⟨u277,hI⟩:=hI
  obtain⟨u278,hI⟩:=hI
  obtain⟨u279,hI⟩:=hI
  obtain⟨u280,hI⟩:=hI
  obtain⟨u281,hI⟩:=hI
  obtain⟨u282,hI⟩:=hI
  obtain⟨u283,hI⟩:=hI
  obtain⟨u284,hI⟩:=hI
  obtain⟨u285,hI⟩:=hI
  obtain⟨u286,hI⟩:=hI
  obtain⟨u287,hI⟩:=hI
  obtain⟨u288,hI⟩:=hI
  obtain⟨u289,hI⟩:=hI
  obtain⟨u290,hI⟩:=hI
  obtain⟨u291,hI⟩:=hI
  obtain⟨u292,hI⟩:=hI
  obtain⟨u293,hI⟩:=hI
  obtain⟨u294,hI⟩:=hI
  obtain⟨u295,hI⟩:=hI
  obtain⟨u296,hI⟩:=hI
  obtain⟨u297,hI⟩:=hI
  obtain⟨u298,hI⟩:=hI
  obtain⟨u299,hI⟩:=hI
  obtain⟨u300,hI⟩:=hI
  obtain⟨u301,hI⟩:=hI
  obtain⟨u302,hI⟩:=hI
  obtain⟨u303,hI⟩:=hI
  obtain⟨u304,hI⟩:=hI
  obtain⟨n,hI⟩:=hI
  obtain⟨L,hI⟩:=hI
  obtain⟨sent,hI⟩:=hI
  obtain⟨sv,hI⟩:=hI
  obtain⟨hfr,hpi,ht⟩:=hI
  subst hfr
  unfold FRP
  obtain⟨SA,sc,hsv,_,_⟩:=zAh hpi.own
  subst hsv
  have HRS:=zAA (RdS.of_own (N:=[]) zHr (by omega) hpi.own (by simp)).1
  have HINC:=zAA hpi.inc
  have HON:=zAA hpi.on
  have HN40:=zAA (show sent.length<=40 from Nat.le_trans hpi.sl H40.out)
  obtain⟨nl,hnl⟩:∃q,q=sent.length:=⟨_,rfl⟩
  rw[<-hnl]at HRS HN40 ⊢
  have HNL:=zAA hnl
  clear hpi ht hnl
  go_wp2_with fail
  go_loopw [39] (fun iv wr=>∃j:Nat,j<=nl∧iv=.int .i64 j∧Hid (Only [] wF wr)) (fun iv _=>nl-(intOf iv).toNat)
  case atStart=>exact⟨0,Nat.zero_le _,rfl,zAA (Only.refl _ _)⟩
  case round =>
   obtain⟨j,hj,rfl,HO2⟩:=hrel
   by_cases hlt:j<nl
   ·have hltI:(j:Int)<nl:=by omega
    go_wp2_with fail
    go_loopw [40] (fun iv wr=>∃q:Nat,q<=j∧iv=.int .i64 q∧Hid (Only [] wF wr)) (fun iv _=>j-(intOf iv).toNat)
    case atStart=>exact⟨0,Nat.zero_le _,rfl,HO2⟩
    case round =>
     obtain⟨q,hq,rfl,HO3⟩:=hrel
     by_cases hlt2:q<j
     ·have hlt2I:(q:Int)<j:=by omega
      obtain⟨gs,os,hSA,_,_⟩:=HRS.out.addr (by have:=HNL.out;omega)
      subst hSA
      obtain⟨ma,hma⟩:∃m,sent[q]?=some m:=⟨_,List.getElem?_eq_getElem (by have:=HNL.out;omega)⟩
      obtain⟨mb,hmb⟩:∃m,sent[j]?=some m:=⟨_,List.getElem?_eq_getElem (by have:=HNL.out;omega)⟩
      have qne:((mb.c:Int)==(ma.c:Int))=false:=by rw[zH3];exact zMT HINC.out hlt2 hma hmb
      have ca:=(zKF hma (HRS.out.only HO3.out (by simp))).2.2.2.1
      have cb_:=(zKF hmb (HRS.out.only HO3.out (by simp))).2.2.2.1
      clear hma hmb
      have hqn:(q:Int)<nl:=by omega
      have hq0:(0:Int)<=q:=by omega
      have hj0:(0:Int)<=j:=by omega
      have hw1:wrap64 ((q:Int)+1)=(q:Int)+1:=by have:=HN40.out;unfold wrap64;omega
      have HW1_:=zAA hw1
      clear hw1
      go_upto_region 59 with fail
      go_quiet (fail)
      go_wp2_with fail
      go_roundw
      case rel=>exact⟨q+1,by omega,by rw[HW1_.out];rfl,zAA (HO3.out.drewN _)⟩
      case measure=>exact zKH hlt2 HW1_.out
     ·have hlt2I:¬(q:Int)<j:=by omega
      have HW1_:=zAA (show wrap64 ((j:Int)+1)=(j:Int)+1 by have:=HN40.out;unfold wrap64;omega)
      go_wp2_with fail
      go_roundw
      case rel=>exact⟨j+1,by omega,by rw[HW1_.out];rfl,HO3⟩
      case measure=>exact zKH hlt HW1_.out
   ·have hltI:¬(j:Int)<nl:=by omega
    go_wp2_with fail
    go_ret
    exact zBz rfl (HON.out.trans HO2.out)
end
end Go.Proofs.YtfipdjlalfpbnaaGreatDoor
