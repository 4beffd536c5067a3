/-
  Walks and plain words (texts Laid, Pa1). No condition beyond those that each theorem states.
-/
import Derived.Test.YtfipdjlalfpbnaaGreatDoorRows
import Derived.Lib.LaidTab
import Derived.Deep.DeepLaidRun
import Derived.Stop.LaidErr
import Derived.LaidMore
import Derived.Test.YtfipdjlalfpbnaaGreatDoorA30
namespace Go.Proofs.YtfipdjlalfpbnaaGreatDoor
section
open Go.Proofs.Tryz
open Go.RowKit Go.ChangeShapes Go.WideShapes Go.ChangeAt

theorem zMF:ownKnob prog.godebug=none:=by kernel_rfl
theorem zEp:laidOutB prog=true:=by kernel_rfl
abbrev zEq:List (String×DataW Unit):=[("math/bits.deBruijn32tab",Rows.laid_math_bits_deBruijn32tab),("math/bits.deBruijn64tab",Rows.laid_math_bits_deBruijn64tab),("internal/strconv.uint64pow10",Rows.laid_internal_strconv_uint64pow10)]

theorem zG6{W:World}(h:laidMetH prog zEq W):Tab W:=by
 rw[MakeChecks.laidMetH_plain _ _ _ (by kernel_rfl)]at h
 exact Lib.tabIs_of_head (g:=0) (t:=221) (e:=23) (n:=20) (rest:=[]) (by kernel_rfl) (by kernel_rfl) underlying221 underlying23 (by kernel_rfl) (by kernel_rfl) (laidMet.tail (laidMet.tail h))

theorem zLE(os:Os)(args:Array Value):laidMetH prog zEq ((World.doorLaid prog 400 os).forCall (fun _ _=>0) ⟨#[],args,[]⟩).memory:=by
 rw[MakeChecks.laidMetH_plain _ _ _ (by kernel_rfl)]
 exact laidMet_of_run3 8 (by kernel_rfl) (by kernel_rfl) (by kernel_rfl)
end
section
open Go.Proofs.Tryz
set_option maxHeartbeats 12800000
set_option maxRecDepth 100000
open Go.RowKit Go.Deep

def zDo:Mg:=⟨0,0,0,0,noT,noT,noT,noT,noT,noT,noT,noT,noT⟩
noncomputable def zEB(n:Nat)(s:ByteArray)(b:List UInt8):ByteArray:=zAS 10 n [] [s,zAS 4 0 b [],⟨#[48]⟩]
noncomputable def zBy(re n:Nat)(s:ByteArray)(b:List UInt8):Mg:=⟨4,0,re,n,noT,noT,noT,noT,noT,noT,zEB n s b,noT,noT⟩
noncomputable def zAv(re:Nat)(made:Int)(n:Nat)(s:ByteArray)(now:Int)(b:List UInt8):Mg×Int×Nat :=
 if zAc now=false then (zDo,2,n)else if 180000<=zBn made now∨18446744073709543423<=n then (zDo,10,n)else if 2000<b.length then (zDo,5,n)
 else if zAG (zBy re n s b)=true then (zBy re n s b,0,n+1)else (zDo,5,n)
def zBY(g c:Nat)(s1 s2:ByteArray)(lo re:Nat)(beg:Bool)(made:Int)(r:Mg×Int×Nat)(w:World)(e:Ending)(w':World):Prop :=
 e=.returned (.tuple #[.agg r.1.cells,.int .i64 r.2.1])∧PairIs w' g c s1 s2 lo re beg made r.2.2∧Only [g] w w'
theorem zDp{re n:Nat}{s:ByteArray}{b:List UInt8}(hr:re<4294967296)(hn:n<18446744073709551616):(zBy re n s b).Fine:=by
 have h0:noT.size<=maxLen:=Nat.zero_le _
 have h1:(zEB n s b).size<=maxLen:=zD5 _ _ _ _ hn
 exact⟨(by show 0<_;omega),hr,hn,h0,h0,h0,h0,h0,h0,h1,h0,h0⟩
theorem zBl{g c:Nat}{s1 s2:ByteArray}{lo re n:Nat}{beg:Bool}{made k:Int}{r:Mg×Int×Nat}{w w':World}(hr:r=(zDo,k,n))(h:PairIs w' g c s1 s2 lo re beg made n)(ho:Only [] w w') :
  zBY g c s1 s2 lo re beg made r w (.returned (.tuple #[.agg #[.int .i64 0,.int .u32 0,.int .u32 0,.int .u64 0,.string ⟨#[]⟩,.string ⟨#[]⟩,.string ⟨#[]⟩,.string ⟨#[]⟩,.string ⟨#[]⟩,.string ⟨#[]⟩,.string ⟨#[]⟩,.string ⟨#[]⟩,.string ⟨#[]⟩],.int .i64 k])) w':=by subst hr;exact⟨rfl,h,ho.mono (by simp)⟩
theorem zIY{w:World}{g R:Nat}{t:TypeId}{cs:Array Value}(h:Blk w g t cs)(hR:g≠R)(v0 v1 v2 v3 v4 v5 v6 v7 v8 v9 v10 v11 v12:Value):Blk (((((((((((((w.setCell ⟨R,0,none⟩ v0).setCell ⟨R,1,none⟩ v1).setCell ⟨R,2,none⟩ v2).setCell ⟨R,3,none⟩ v3).setCell ⟨R,4,none⟩ v4).setCell ⟨R,5,none⟩ v5).setCell ⟨R,6,none⟩ v6).setCell ⟨R,7,none⟩ v7).setCell ⟨R,8,none⟩ v8).setCell ⟨R,9,none⟩ v9).setCell ⟨R,10,none⟩ v10).setCell ⟨R,11,none⟩ v11).setCell ⟨R,12,none⟩ v12) g t cs :=
 (((((((((((((h.far (p:=⟨R,0,none⟩) hR v0).far (p:=⟨R,1,none⟩) hR v1).far (p:=⟨R,2,none⟩) hR v2).far (p:=⟨R,3,none⟩) hR v3).far (p:=⟨R,4,none⟩) hR v4).far (p:=⟨R,5,none⟩) hR v5).far (p:=⟨R,6,none⟩) hR v6).far (p:=⟨R,7,none⟩) hR v7).far (p:=⟨R,8,none⟩) hR v8).far (p:=⟨R,9,none⟩) hR v9).far (p:=⟨R,10,none⟩) hR v10).far (p:=⟨R,11,none⟩) hR v11).far (p:=⟨R,12,none⟩) hR v12)
theorem zJz(w:World)(g c:Nat)(s1 s2:ByteArray)(lo re:Nat)(beg:Bool)(made:Int)(n:Nat)(h:PairIs w g c s1 s2 lo re beg made n)(now:Int)(h1:0<=made)(h2:made<=1125899906842624)(bv:Value)(b:List UInt8)(ht:zAc now=false):Calls prog 29 #[.pointer (some ⟨g,0,none⟩),.int .i64 now,bv] w (zBY g c s1 s2 lo re beg made (zAv re made n s1 now b) w):=by
 have HV:=zAA (show zAv re made n s1 now b=(zDo,2,n)by unfold zAv;rw[if_pos ht])
 have HT:=zAA (fun W=>zAx now W)
 have HOL:=zAA (fun(ht:zAc now=true) W (hw:PairIs W g c s1 s2 lo re beg made n)=>zBT W g c s1 s2 lo re beg made n hw now h1 h2 ((zAT now).1 ht).1 ((zAT now).1 ht).2)
 have HR:=zAA ((Blk.new w 25 #[.int .i64 0,.int .u32 0,.int .u32 0,.int .u64 0,.string ⟨#[]⟩,.string ⟨#[]⟩,.string ⟨#[]⟩,.string ⟨#[]⟩,.string ⟨#[]⟩,.string ⟨#[]⟩,.string ⟨#[]⟩,.string ⟨#[]⟩,.string ⟨#[]⟩]))
 have HO:=zAA ((Only.refl [] w).alloc (.cells #[.int .i64 0,.int .u32 0,.int .u32 0,.int .u64 0,.string ⟨#[]⟩,.string ⟨#[]⟩,.string ⟨#[]⟩,.string ⟨#[]⟩,.string ⟨#[]⟩,.string ⟨#[]⟩,.string ⟨#[]⟩,.string ⟨#[]⟩,.string ⟨#[]⟩] 25))
 have H:=zAA (PairIs.only h HO.out (by simp))
 rw[ht]at HT
 clear ht
 have HGN:=zAA (show g≠w.heap.size by have:=Blk.lt h;omega)
 clear h h1 h2
 go_enter func29,ntmps29
 go_upto_region 1 with fail
 generalize (w.alloc (.cells #[.int .i64 0,.int .u32 0,.int .u32 0,.int .u64 0,.string ⟨#[]⟩,.string ⟨#[]⟩,.string ⟨#[]⟩,.string ⟨#[]⟩,.string ⟨#[]⟩,.string ⟨#[]⟩,.string ⟨#[]⟩,.string ⟨#[]⟩,.string ⟨#[]⟩] 25))=v0 at *
 have c0:=H.out.cell 0;have c1:=H.out.cell 1;have c2:=H.out.cell 2;have c3:=H.out.cell 3;have c4:=H.out.cell 4;have c5:=H.out.cell 5;have c6:=H.out.cell 6;have c7:=H.out.cell 7;simp at c0 c1 c2 c3 c4 c5 c6 c7
 have cf:=H.out.frozen
 have r0:=HR.out.cell 0;have r1:=HR.out.cell 1;have r2:=HR.out.cell 2;have r3:=HR.out.cell 3;have r4:=HR.out.cell 4;have r5:=HR.out.cell 5;have r6:=HR.out.cell 6;have r7:=HR.out.cell 7;have r8:=HR.out.cell 8;have r9:=HR.out.cell 9;have r10:=HR.out.cell 10;have r11:=HR.out.cell 11;have r12:=HR.out.cell 12;simp at r0 r1 r2 r3 r4 r5 r6 r7 r8 r9 r10 r11 r12
 have rf:=HR.out.frozen
 go_wp2_with (go_at_call 69;refine(HT.out _).mono ?_;rintro e wz ⟨rfl,rfl⟩)
 refine bodyPost_ret (zAC rfl _ _ w.heap.size 25 _ (0,0) _ rfl (zEy HR.out (.int .i64 0) (.int .u32 0) (.int .u32 0) (.int .u64 0) (.string ⟨#[]⟩) (.string ⟨#[]⟩) (.string ⟨#[]⟩) (.string ⟨#[]⟩) (.string ⟨#[]⟩) (.string ⟨#[]⟩) (.string ⟨#[]⟩) (.string ⟨#[]⟩) (.string ⟨#[]⟩)) underlying25 rfl (by kernel_rfl)) rfl ?_
 exact zBl HV.out (zIY H.out HGN.out (.int .i64 0) (.int .u32 0) (.int .u32 0) (.int .u64 0) (.string ⟨#[]⟩) (.string ⟨#[]⟩) (.string ⟨#[]⟩) (.string ⟨#[]⟩) (.string ⟨#[]⟩) (.string ⟨#[]⟩) (.string ⟨#[]⟩) (.string ⟨#[]⟩) (.string ⟨#[]⟩)) (zDN HO.out (.inr (Nat.le_refl _)) (.int .i64 0) (.int .u32 0) (.int .u32 0) (.int .u64 0) (.string ⟨#[]⟩) (.string ⟨#[]⟩) (.string ⟨#[]⟩) (.string ⟨#[]⟩) (.string ⟨#[]⟩) (.string ⟨#[]⟩) (.string ⟨#[]⟩) (.string ⟨#[]⟩) (.string ⟨#[]⟩))
theorem zLF(w:World)(g c:Nat)(s1 s2:ByteArray)(lo re:Nat)(beg:Bool)(made:Int)(n:Nat)(h:PairIs w g c s1 s2 lo re beg made n)(now:Int)(h1:0<=made)(h2:made<=1125899906842624)(bv:Value)(b:List UInt8)(ht:zAc now=true)(ho:180000<=zBn made now):Calls prog 29 #[.pointer (some ⟨g,0,none⟩),.int .i64 now,bv] w (zBY g c s1 s2 lo re beg made (zAv re made n s1 now b) w):=by
 have HV:=zAA (show zAv re made n s1 now b=(zDo,10,n)by unfold zAv;rw[if_neg (by rw[ht];decide),if_pos (.inl ho)])
 have HT:=zAA (fun W=>zAx now W)
 have HOL:=zAA (fun(ht:zAc now=true) W (hw:PairIs W g c s1 s2 lo re beg made n)=>zBT W g c s1 s2 lo re beg made n hw now h1 h2 ((zAT now).1 ht).1 ((zAT now).1 ht).2)
 have HR:=zAA ((Blk.new w 25 #[.int .i64 0,.int .u32 0,.int .u32 0,.int .u64 0,.string ⟨#[]⟩,.string ⟨#[]⟩,.string ⟨#[]⟩,.string ⟨#[]⟩,.string ⟨#[]⟩,.string ⟨#[]⟩,.string ⟨#[]⟩,.string ⟨#[]⟩,.string ⟨#[]⟩]))
 have HO:=zAA ((Only.refl [] w).alloc (.cells #[.int .i64 0,.int .u32 0,.int .u32 0,.int .u64 0,.string ⟨#[]⟩,.string ⟨#[]⟩,.string ⟨#[]⟩,.string ⟨#[]⟩,.string ⟨#[]⟩,.string ⟨#[]⟩,.string ⟨#[]⟩,.string ⟨#[]⟩,.string ⟨#[]⟩] 25))
 have H:=zAA (PairIs.only h HO.out (by simp))
 rw[ht]at HT
 replace HOL:=zAA (HOL.out ht)
 rw[decide_eq_true ho]at HOL
 clear ht ho
 have HGN:=zAA (show g≠w.heap.size by have:=Blk.lt h;omega)
 clear h h1 h2
 go_enter func29,ntmps29
 go_upto_region 1 with fail
 generalize (w.alloc (.cells #[.int .i64 0,.int .u32 0,.int .u32 0,.int .u64 0,.string ⟨#[]⟩,.string ⟨#[]⟩,.string ⟨#[]⟩,.string ⟨#[]⟩,.string ⟨#[]⟩,.string ⟨#[]⟩,.string ⟨#[]⟩,.string ⟨#[]⟩,.string ⟨#[]⟩] 25))=v0 at *
 have c0:=H.out.cell 0;have c1:=H.out.cell 1;have c2:=H.out.cell 2;have c3:=H.out.cell 3;have c4:=H.out.cell 4;have c5:=H.out.cell 5;have c6:=H.out.cell 6;have c7:=H.out.cell 7;simp at c0 c1 c2 c3 c4 c5 c6 c7
 have cf:=H.out.frozen
 have r0:=HR.out.cell 0;have r1:=HR.out.cell 1;have r2:=HR.out.cell 2;have r3:=HR.out.cell 3;have r4:=HR.out.cell 4;have r5:=HR.out.cell 5;have r6:=HR.out.cell 6;have r7:=HR.out.cell 7;have r8:=HR.out.cell 8;have r9:=HR.out.cell 9;have r10:=HR.out.cell 10;have r11:=HR.out.cell 11;have r12:=HR.out.cell 12;simp at r0 r1 r2 r3 r4 r5 r6 r7 r8 r9 r10 r11 r12
 have rf:=HR.out.frozen
 go_wp2_with (first|(go_at_call 69;refine(HT.out _).mono ?_;rintro e wz ⟨rfl,rfl⟩)|(go_at_call 71;refine(HOL.out _ H.out).mono ?_;rintro e wz ⟨rfl,rfl⟩))
 refine bodyPost_ret (zAC rfl _ _ w.heap.size 25 _ (0,0) _ rfl (zEy HR.out (.int .i64 0) (.int .u32 0) (.int .u32 0) (.int .u64 0) (.string ⟨#[]⟩) (.string ⟨#[]⟩) (.string ⟨#[]⟩) (.string ⟨#[]⟩) (.string ⟨#[]⟩) (.string ⟨#[]⟩) (.string ⟨#[]⟩) (.string ⟨#[]⟩) (.string ⟨#[]⟩)) underlying25 rfl (by kernel_rfl)) rfl ?_
 exact zBl HV.out (zIY H.out HGN.out (.int .i64 0) (.int .u32 0) (.int .u32 0) (.int .u64 0) (.string ⟨#[]⟩) (.string ⟨#[]⟩) (.string ⟨#[]⟩) (.string ⟨#[]⟩) (.string ⟨#[]⟩) (.string ⟨#[]⟩) (.string ⟨#[]⟩) (.string ⟨#[]⟩) (.string ⟨#[]⟩)) (zDN HO.out (.inr (Nat.le_refl _)) (.int .i64 0) (.int .u32 0) (.int .u32 0) (.int .u64 0) (.string ⟨#[]⟩) (.string ⟨#[]⟩) (.string ⟨#[]⟩) (.string ⟨#[]⟩) (.string ⟨#[]⟩) (.string ⟨#[]⟩) (.string ⟨#[]⟩) (.string ⟨#[]⟩) (.string ⟨#[]⟩))
theorem zJ0(w:World)(g c:Nat)(s1 s2:ByteArray)(lo re:Nat)(beg:Bool)(made:Int)(n:Nat)(h:PairIs w g c s1 s2 lo re beg made n)(now:Int)(h1:0<=made)(h2:made<=1125899906842624)(bv:Value)(b:List UInt8)(ht:zAc now=true)(ho:¬180000<=zBn made now)(hn:18446744073709543423<=n):Calls prog 29 #[.pointer (some ⟨g,0,none⟩),.int .i64 now,bv] w (zBY g c s1 s2 lo re beg made (zAv re made n s1 now b) w):=by
 have HV:=zAA (show zAv re made n s1 now b=(zDo,10,n)by unfold zAv;rw[if_neg (by rw[ht];decide),if_pos (.inr hn)])
 have HT:=zAA (fun W=>zAx now W)
 have HOL:=zAA (fun(ht:zAc now=true) W (hw:PairIs W g c s1 s2 lo re beg made n)=>zBT W g c s1 s2 lo re beg made n hw now h1 h2 ((zAT now).1 ht).1 ((zAT now).1 ht).2)
 have HR:=zAA ((Blk.new w 25 #[.int .i64 0,.int .u32 0,.int .u32 0,.int .u64 0,.string ⟨#[]⟩,.string ⟨#[]⟩,.string ⟨#[]⟩,.string ⟨#[]⟩,.string ⟨#[]⟩,.string ⟨#[]⟩,.string ⟨#[]⟩,.string ⟨#[]⟩,.string ⟨#[]⟩]))
 have HO:=zAA ((Only.refl [] w).alloc (.cells #[.int .i64 0,.int .u32 0,.int .u32 0,.int .u64 0,.string ⟨#[]⟩,.string ⟨#[]⟩,.string ⟨#[]⟩,.string ⟨#[]⟩,.string ⟨#[]⟩,.string ⟨#[]⟩,.string ⟨#[]⟩,.string ⟨#[]⟩,.string ⟨#[]⟩] 25))
 have H:=zAA (PairIs.only h HO.out (by simp))
 rw[ht]at HT
 replace HOL:=zAA (HOL.out ht)
 rw[decide_eq_false ho]at HOL
 have h3:decide ((18446744073709543423:Int)<=n)=true:=by rw[decide_eq_true_iff];omega
 clear ht ho hn
 have HGN:=zAA (show g≠w.heap.size by have:=Blk.lt h;omega)
 clear h h1 h2
 go_enter func29,ntmps29
 go_upto_region 1 with fail
 generalize (w.alloc (.cells #[.int .i64 0,.int .u32 0,.int .u32 0,.int .u64 0,.string ⟨#[]⟩,.string ⟨#[]⟩,.string ⟨#[]⟩,.string ⟨#[]⟩,.string ⟨#[]⟩,.string ⟨#[]⟩,.string ⟨#[]⟩,.string ⟨#[]⟩,.string ⟨#[]⟩] 25))=v0 at *
 have c0:=H.out.cell 0;have c1:=H.out.cell 1;have c2:=H.out.cell 2;have c3:=H.out.cell 3;have c4:=H.out.cell 4;have c5:=H.out.cell 5;have c6:=H.out.cell 6;have c7:=H.out.cell 7;simp at c0 c1 c2 c3 c4 c5 c6 c7
 have cf:=H.out.frozen
 have r0:=HR.out.cell 0;have r1:=HR.out.cell 1;have r2:=HR.out.cell 2;have r3:=HR.out.cell 3;have r4:=HR.out.cell 4;have r5:=HR.out.cell 5;have r6:=HR.out.cell 6;have r7:=HR.out.cell 7;have r8:=HR.out.cell 8;have r9:=HR.out.cell 9;have r10:=HR.out.cell 10;have r11:=HR.out.cell 11;have r12:=HR.out.cell 12;simp at r0 r1 r2 r3 r4 r5 r6 r7 r8 r9 r10 r11 r12
 have rf:=HR.out.frozen
 go_wp2_with (first|(go_at_call 69;refine(HT.out _).mono ?_;rintro e wz ⟨rfl,rfl⟩)|(go_at_call 71;refine(HOL.out _ H.out).mono ?_;rintro e wz ⟨rfl,rfl⟩))
 refine bodyPost_ret (zAC rfl _ _ w.heap.size 25 _ (0,0) _ rfl (zEy HR.out (.int .i64 0) (.int .u32 0) (.int .u32 0) (.int .u64 0) (.string ⟨#[]⟩) (.string ⟨#[]⟩) (.string ⟨#[]⟩) (.string ⟨#[]⟩) (.string ⟨#[]⟩) (.string ⟨#[]⟩) (.string ⟨#[]⟩) (.string ⟨#[]⟩) (.string ⟨#[]⟩)) underlying25 rfl (by kernel_rfl)) rfl ?_
 exact zBl HV.out (zIY H.out HGN.out (.int .i64 0) (.int .u32 0) (.int .u32 0) (.int .u64 0) (.string ⟨#[]⟩) (.string ⟨#[]⟩) (.string ⟨#[]⟩) (.string ⟨#[]⟩) (.string ⟨#[]⟩) (.string ⟨#[]⟩) (.string ⟨#[]⟩) (.string ⟨#[]⟩) (.string ⟨#[]⟩)) (zDN HO.out (.inr (Nat.le_refl _)) (.int .i64 0) (.int .u32 0) (.int .u32 0) (.int .u64 0) (.string ⟨#[]⟩) (.string ⟨#[]⟩) (.string ⟨#[]⟩) (.string ⟨#[]⟩) (.string ⟨#[]⟩) (.string ⟨#[]⟩) (.string ⟨#[]⟩) (.string ⟨#[]⟩) (.string ⟨#[]⟩))
theorem zJ1(w:World)(g c:Nat)(s1 s2:ByteArray)(lo re:Nat)(beg:Bool)(made:Int)(n:Nat)(h:PairIs w g c s1 s2 lo re beg made n)(now:Int)(h1:0<=made)(h2:made<=1125899906842624)(A:Option Addr)(cap:Nat)(b:List UInt8)(ht:zAc now=true)(ho:¬180000<=zBn made now)(hn:¬18446744073709543423<=n)(hb:2000<b.length):Calls prog 29 #[.pointer (some ⟨g,0,none⟩),.int .i64 now,.slice A b.length cap] w (zBY g c s1 s2 lo re beg made (zAv re made n s1 now b) w):=by
 have HV:=zAA (show zAv re made n s1 now b=(zDo,5,n)by unfold zAv;rw[if_neg (by rw[ht];decide),if_neg (fun h=>h.elim ho hn),if_pos hb])
 have HT:=zAA (fun W=>zAx now W)
 have HOL:=zAA (fun(ht:zAc now=true) W (hw:PairIs W g c s1 s2 lo re beg made n)=>zBT W g c s1 s2 lo re beg made n hw now h1 h2 ((zAT now).1 ht).1 ((zAT now).1 ht).2)
 have HR:=zAA ((Blk.new w 25 #[.int .i64 0,.int .u32 0,.int .u32 0,.int .u64 0,.string ⟨#[]⟩,.string ⟨#[]⟩,.string ⟨#[]⟩,.string ⟨#[]⟩,.string ⟨#[]⟩,.string ⟨#[]⟩,.string ⟨#[]⟩,.string ⟨#[]⟩,.string ⟨#[]⟩]))
 have HO:=zAA ((Only.refl [] w).alloc (.cells #[.int .i64 0,.int .u32 0,.int .u32 0,.int .u64 0,.string ⟨#[]⟩,.string ⟨#[]⟩,.string ⟨#[]⟩,.string ⟨#[]⟩,.string ⟨#[]⟩,.string ⟨#[]⟩,.string ⟨#[]⟩,.string ⟨#[]⟩,.string ⟨#[]⟩] 25))
 have H:=zAA (PairIs.only h HO.out (by simp))
 rw[ht]at HT
 replace HOL:=zAA (HOL.out ht)
 rw[decide_eq_false ho]at HOL
 have h3:decide ((18446744073709543423:Int)<=n)=false:=by rw[decide_eq_false_iff_not];omega
 have h4:(2000:Int)<b.length:=by omega
 clear ht ho hn hb
 generalize b.length=nb at *
 have HGN:=zAA (show g≠w.heap.size by have:=Blk.lt h;omega)
 clear h h1 h2
 go_enter func29,ntmps29
 go_upto_region 1 with fail
 generalize (w.alloc (.cells #[.int .i64 0,.int .u32 0,.int .u32 0,.int .u64 0,.string ⟨#[]⟩,.string ⟨#[]⟩,.string ⟨#[]⟩,.string ⟨#[]⟩,.string ⟨#[]⟩,.string ⟨#[]⟩,.string ⟨#[]⟩,.string ⟨#[]⟩,.string ⟨#[]⟩] 25))=v0 at *
 have c0:=H.out.cell 0;have c1:=H.out.cell 1;have c2:=H.out.cell 2;have c3:=H.out.cell 3;have c4:=H.out.cell 4;have c5:=H.out.cell 5;have c6:=H.out.cell 6;have c7:=H.out.cell 7;simp at c0 c1 c2 c3 c4 c5 c6 c7
 have cf:=H.out.frozen
 have r0:=HR.out.cell 0;have r1:=HR.out.cell 1;have r2:=HR.out.cell 2;have r3:=HR.out.cell 3;have r4:=HR.out.cell 4;have r5:=HR.out.cell 5;have r6:=HR.out.cell 6;have r7:=HR.out.cell 7;have r8:=HR.out.cell 8;have r9:=HR.out.cell 9;have r10:=HR.out.cell 10;have r11:=HR.out.cell 11;have r12:=HR.out.cell 12;simp at r0 r1 r2 r3 r4 r5 r6 r7 r8 r9 r10 r11 r12
 have rf:=HR.out.frozen
 go_wp2_with (first|(go_at_call 69;refine(HT.out _).mono ?_;rintro e wz ⟨rfl,rfl⟩)|(go_at_call 71;refine(HOL.out _ H.out).mono ?_;rintro e wz ⟨rfl,rfl⟩))
 refine bodyPost_ret (zAC rfl _ _ w.heap.size 25 _ (0,0) _ rfl (zEy HR.out (.int .i64 0) (.int .u32 0) (.int .u32 0) (.int .u64 0) (.string ⟨#[]⟩) (.string ⟨#[]⟩) (.string ⟨#[]⟩) (.string ⟨#[]⟩) (.string ⟨#[]⟩) (.string ⟨#[]⟩) (.string ⟨#[]⟩) (.string ⟨#[]⟩) (.string ⟨#[]⟩)) underlying25 rfl (by kernel_rfl)) rfl ?_
 exact zBl HV.out (zIY H.out HGN.out (.int .i64 0) (.int .u32 0) (.int .u32 0) (.int .u64 0) (.string ⟨#[]⟩) (.string ⟨#[]⟩) (.string ⟨#[]⟩) (.string ⟨#[]⟩) (.string ⟨#[]⟩) (.string ⟨#[]⟩) (.string ⟨#[]⟩) (.string ⟨#[]⟩) (.string ⟨#[]⟩)) (zDN HO.out (.inr (Nat.le_refl _)) (.int .i64 0) (.int .u32 0) (.int .u32 0) (.int .u64 0) (.string ⟨#[]⟩) (.string ⟨#[]⟩) (.string ⟨#[]⟩) (.string ⟨#[]⟩) (.string ⟨#[]⟩) (.string ⟨#[]⟩) (.string ⟨#[]⟩) (.string ⟨#[]⟩) (.string ⟨#[]⟩))
end
end Go.Proofs.YtfipdjlalfpbnaaGreatDoor
