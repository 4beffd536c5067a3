/-
  Walks and plain words (texts Wq1, Is, Rs, Np1, Bd, Lt, Join, Bc). No condition beyond those that each theorem states.
-/
import Derived.Test.YtfipdjlalfpbnaaGreatDoorShelf
import Derived.Shelf.Strings.Builder1
import Derived.Maps.Own
import Derived.Maps.OwnOps
import Derived.Handy
import Derived.Test.YtfipdjlalfpbnaaGreatDoorA22
namespace Go.Proofs.YtfipdjlalfpbnaaGreatDoor
section
open Go.Proofs.Tryz
set_option maxHeartbeats 12800000
set_option maxRecDepth 100000
open Go.RowKit Go.Deep

def zBe(m:Mg)(w:World)(e:Ending)(w':World):Prop:=∃g,e=.returned (.slice (some ⟨g,0,none⟩) (zAU m).length (zAU m).length)∧w.heap.size<=g∧Blk w' g 9 (zEz (zAU m)).toArray∧Only [] w w'
theorem zK0(w:World)(s r c:Nat)(x4 x5 x6 x7 x8 x9 x10 x11 x12:ByteArray):Calls prog 106 #[.agg #[.int .i64 1,.int .u32 (s:Nat),.int .u32 (r:Nat),.int .u64 (c:Nat),.string x4,.string x5,.string x6,.string x7,.string x8,.string x9,.string x10,.string x11,.string x12]] w (zBe (Mg.mk 1 s r c x4 x5 x6 x7 x8 x9 x10 x11 x12) w):=by
 have HMB:=zAA (Blk.new w 25 #[.int .i64 1,.int .u32 (s:Nat),.int .u32 (r:Nat),.int .u64 (c:Nat),.string x4,.string x5,.string x6,.string x7,.string x8,.string x9,.string x10,.string x11,.string x12])
 have HO:=zAA ((Only.refl [] w).alloc (.cells #[.int .i64 1,.int .u32 (s:Nat),.int .u32 (r:Nat),.int .u64 (c:Nat),.string x4,.string x5,.string x6,.string x7,.string x8,.string x9,.string x10,.string x11,.string x12] 25))
 have m0:=HMB.out.cell 0;have m1:=HMB.out.cell 1;have m2:=HMB.out.cell 2;have m3:=HMB.out.cell 3;have m4:=HMB.out.cell 4;have m5:=HMB.out.cell 5;have m6:=HMB.out.cell 6;have m7:=HMB.out.cell 7;have m8:=HMB.out.cell 8;have m9:=HMB.out.cell 9;have m10:=HMB.out.cell 10;have m11:=HMB.out.cell 11;have m12:=HMB.out.cell 12;simp at m0 m1 m2 m3 m4 m5 m6 m7 m8 m9 m10 m11 m12
 go_enter func106,ntmps106
 go_wp2_with fail
 go_ret
 refine⟨w.heap.size+1,rfl,by omega,?_,HO.out.alloc _⟩
 exact zAl (by simp)

theorem zK1(w:World)(s r c:Nat)(x4 x5 x6 x7 x8 x9 x10 x11 x12:ByteArray):Calls prog 106 #[.agg #[.int .i64 2,.int .u32 (s:Nat),.int .u32 (r:Nat),.int .u64 (c:Nat),.string x4,.string x5,.string x6,.string x7,.string x8,.string x9,.string x10,.string x11,.string x12]] w (zBe (Mg.mk 2 s r c x4 x5 x6 x7 x8 x9 x10 x11 x12) w):=by
 have HMB:=zAA (Blk.new w 25 #[.int .i64 2,.int .u32 (s:Nat),.int .u32 (r:Nat),.int .u64 (c:Nat),.string x4,.string x5,.string x6,.string x7,.string x8,.string x9,.string x10,.string x11,.string x12])
 have HO:=zAA ((Only.refl [] w).alloc (.cells #[.int .i64 2,.int .u32 (s:Nat),.int .u32 (r:Nat),.int .u64 (c:Nat),.string x4,.string x5,.string x6,.string x7,.string x8,.string x9,.string x10,.string x11,.string x12] 25))
 have m0:=HMB.out.cell 0;have m1:=HMB.out.cell 1;have m2:=HMB.out.cell 2;have m3:=HMB.out.cell 3;have m4:=HMB.out.cell 4;have m5:=HMB.out.cell 5;have m6:=HMB.out.cell 6;have m7:=HMB.out.cell 7;have m8:=HMB.out.cell 8;have m9:=HMB.out.cell 9;have m10:=HMB.out.cell 10;have m11:=HMB.out.cell 11;have m12:=HMB.out.cell 12;simp at m0 m1 m2 m3 m4 m5 m6 m7 m8 m9 m10 m11 m12
 go_enter func106,ntmps106
 go_wp2_with fail
 go_ret
 refine⟨w.heap.size+1,rfl,by omega,?_,HO.out.alloc _⟩
 exact zAl (by simp)

theorem zK2(w:World)(s r c:Nat)(x4 x5 x6 x7 x8 x9 x10 x11 x12:ByteArray):Calls prog 106 #[.agg #[.int .i64 3,.int .u32 (s:Nat),.int .u32 (r:Nat),.int .u64 (c:Nat),.string x4,.string x5,.string x6,.string x7,.string x8,.string x9,.string x10,.string x11,.string x12]] w (zBe (Mg.mk 3 s r c x4 x5 x6 x7 x8 x9 x10 x11 x12) w):=by
 have HMB:=zAA (Blk.new w 25 #[.int .i64 3,.int .u32 (s:Nat),.int .u32 (r:Nat),.int .u64 (c:Nat),.string x4,.string x5,.string x6,.string x7,.string x8,.string x9,.string x10,.string x11,.string x12])
 have HO:=zAA ((Only.refl [] w).alloc (.cells #[.int .i64 3,.int .u32 (s:Nat),.int .u32 (r:Nat),.int .u64 (c:Nat),.string x4,.string x5,.string x6,.string x7,.string x8,.string x9,.string x10,.string x11,.string x12] 25))
 have m0:=HMB.out.cell 0;have m1:=HMB.out.cell 1;have m2:=HMB.out.cell 2;have m3:=HMB.out.cell 3;have m4:=HMB.out.cell 4;have m5:=HMB.out.cell 5;have m6:=HMB.out.cell 6;have m7:=HMB.out.cell 7;have m8:=HMB.out.cell 8;have m9:=HMB.out.cell 9;have m10:=HMB.out.cell 10;have m11:=HMB.out.cell 11;have m12:=HMB.out.cell 12;simp at m0 m1 m2 m3 m4 m5 m6 m7 m8 m9 m10 m11 m12
 go_enter func106,ntmps106
 go_wp2_with fail
 go_ret
 refine⟨w.heap.size+1,rfl,by omega,?_,HO.out.alloc _⟩
 exact zAl (by simp)

theorem zK3(w:World)(s r c:Nat)(x4 x5 x6 x7 x8 x9 x10 x11 x12:ByteArray):Calls prog 106 #[.agg #[.int .i64 4,.int .u32 (s:Nat),.int .u32 (r:Nat),.int .u64 (c:Nat),.string x4,.string x5,.string x6,.string x7,.string x8,.string x9,.string x10,.string x11,.string x12]] w (zBe (Mg.mk 4 s r c x4 x5 x6 x7 x8 x9 x10 x11 x12) w):=by
 have HMB:=zAA (Blk.new w 25 #[.int .i64 4,.int .u32 (s:Nat),.int .u32 (r:Nat),.int .u64 (c:Nat),.string x4,.string x5,.string x6,.string x7,.string x8,.string x9,.string x10,.string x11,.string x12])
 have HO:=zAA ((Only.refl [] w).alloc (.cells #[.int .i64 4,.int .u32 (s:Nat),.int .u32 (r:Nat),.int .u64 (c:Nat),.string x4,.string x5,.string x6,.string x7,.string x8,.string x9,.string x10,.string x11,.string x12] 25))
 have m0:=HMB.out.cell 0;have m1:=HMB.out.cell 1;have m2:=HMB.out.cell 2;have m3:=HMB.out.cell 3;have m4:=HMB.out.cell 4;have m5:=HMB.out.cell 5;have m6:=HMB.out.cell 6;have m7:=HMB.out.cell 7;have m8:=HMB.out.cell 8;have m9:=HMB.out.cell 9;have m10:=HMB.out.cell 10;have m11:=HMB.out.cell 11;have m12:=HMB.out.cell 12;simp at m0 m1 m2 m3 m4 m5 m6 m7 m8 m9 m10 m11 m12
 go_enter func106,ntmps106
 go_wp2_with fail
 go_ret
 refine⟨w.heap.size+1,rfl,by omega,?_,HO.out.alloc _⟩
 exact zAl (by simp)
end
section
open Go.Proofs.Tryz
set_option maxHeartbeats 3200000
set_option maxRecDepth 100000
open Go.RowKit Go.Deep

theorem zGQ(w:World)(s:ByteArray)(_hs:s.size<=maxLen):Calls prog 39 #[.string s] w (zBW (zAE s) w):=by
 by_cases hlt:65536<s.size
 ·have HB:=zAA (Blk.new w 77 zBG)
  have HO:=zAA ((Only.refl [] w).alloc (.cells zBG 77))
  unfold zBG at HB HO
  have hltI:(65536:Int)<s.size:=by omega
  have HR:=zAA (show zAE s=none by unfold zAE;rw[if_pos hlt])
  unfold maxLen at _hs
  clear hlt
  go_enter func39,ntmps39
  go_wp2_with fail
  refine bodyPost_ret (results_cell_row rfl _ _ w.heap.size 77 _ (0,0) _ rfl HB.out underlying77 rfl (by kernel_rfl)) rfl ?_
  exact zEI HR.out HO.out
 ·exact zGE w s (by omega)

theorem zAd(w:World)(s:ByteArray)(hs:s.size<=maxLen):Calls prog 18 #[.string s] w (zAn (zAE s).isSome w):=by
 have HP:=zAA (zGQ w s hs)
 have HK:=zAA (fun k n b l (h:zAE s=some (k,n,b,l))=>zEH h)
 cases hr:zAE s with
 | none =>
  rw[hr]at HP
  unfold zBW nd0 at HP
  simp only at HP
  have hf:∀W:World,(Instr.field 77 (.agg #[.int .i64 0,.int .u64 0,.slice none 0 0,.slice none 0 0]) 0).run prog W=.ok (.int .i64 0) W:=fun W=>by kernel_rfl
  go_enter func18,ntmps18
  go_wp2_with (go_at_call 39;refine HP.out.mono ?_;rintro e w2 ⟨rfl,ho⟩;have HO:=zAA ho;clear ho)
  go_ret
  exact zBz rfl HO.out
 | some nd =>
  obtain⟨k,n,bs,parts⟩:=nd
  have hk:=HK.out _ _ _ _ hr
  have hkb:(0:Int)<k:=by omega
  rw[hr]at HP
  unfold zBW at HP
  simp only at HP
  have hf:∀(A1 A2:Option Addr) (n1 c1 n2 c2:Nat) (W:World),(Instr.field 77 (.agg #[.int .i64 k,.int .u64 (n:Nat),.slice A1 n1 c1,.slice A2 n2 c2]) 0).run prog W=.ok (.int .i64 k) W:=fun A1 A2 n1 c1 n2 c2 W=>by kernel_rfl
  clear hk HK
  go_enter func18,ntmps18
  go_wp2_with (go_at_call 39;refine HP.out.mono ?_;rintro e w2 ⟨bv,pv,rfl,ho,hb,hp⟩;obtain⟨A1,cap1,rfl,_,_⟩:=(hb [] (by simp)).formb;obtain⟨A2,cap2,rfl,_,_⟩:=(hp [] (by simp)).form;have HO:=zAA ho;clear ho hb hp)
  go_ret
  exact zBz rfl HO.out
end
section
open Go.RowKit Go.Deep

theorem zCF{l:List ByteArray}{i:Nat}(hi:i<l.length):(zAq l)[i]?=some (.string (l.getD i ByteArray.empty)):=by simp[zAq,List.getElem?_eq_getElem hi]
end
section
open Go.Proofs.Tryz
set_option maxHeartbeats 6400000
set_option maxRecDepth 100000
open Go.RowKit Go.Deep Go.Sort Go.Lib

def Tab(w:World):Prop:=Lib.TabIs prog w "internal/strconv.uint64pow10" .u64 Lib.pow10Tab
theorem Tab.only{S:List Nat}{w w':World}(h:Tab w)(ho:Only S w w')(hS:∀x∈S,w.heap.size<=x):Tab w':=by
 unfold Tab Lib.TabIs at h ⊢
 unfold World.var? at h ⊢
 cases hg:prog.globalNamed "internal/strconv.uint64pow10" with
 | none=>rw[hg]at h;simp at h
 | some g =>
  rw[hg]at h
  simp only[Option.bind_some]at h ⊢
  have hlt:g<w.heap.size:=by
   rcases Nat.lt_or_ge g w.heap.size with h'|h'
   ·exact h'
   ·rw[Array.getElem?_eq_none h']at h;simp at h
  rw[ho.block g hlt (fun hx=>by have:=hS g hx;omega)]
  exact h

theorem zJj(w:World)(os:Array Obj):Only [] w (grow w os):=⟨rfl,rfl,rfl,by simp[grow],fun i hi _=>by simp[grow,Array.getElem?_append_left hi]⟩
theorem zGz(w:World)(T:TypeId)(nd:Nat)(hs:nd<=24):Holds (fun(b:UInt8)=>Value.int .u8 (b.toNat:Int)) (w.alloc (.cells Lib.zeros24 T)) w.heap.size 0 (Array.replicate nd (0:UInt8)):=fun j hj=>by
 have hj':j<nd:=by simpa using hj
 refine⟨?_,World.frozen?_alloc_new _ _ _ _⟩
 rw[World.cell?_alloc_new,Nat.zero_add,Lib.zeros24_at _ (by omega),getElem!_pos _ j hj]
 simp

theorem zG0(u:Nat)(hu64:u<18446744073709551616)(w:World)(htab:Tab w) :
  Calls prog 172 #[.int .u64 u,.int .i64 10] w (zBr (Lib.decDigits u) w):=by
 by_cases hs:u<100
 ·have hs':(u:Int)<100:=by omega
  go_enter func172,ntmps172
  go_wp2_with (go_at_call 173;refine(Tryz.internal_strconv_small u hs _).mono ?_;rintro e w' ⟨rfl,rfl⟩)
  go_ret
  exact zBj rfl (Only.refl _ _)
 ·have hs':¬(u:Int)<100:=by omega
  have hu1:1<=u:=by omega
  have hnd20:Lib.nDigits u<=20:=by have:=Lib.numDigits_eq u hu1 hu64;split at this<;>omega
  have hal:prog.arrayLen 214=24:=by kernel_rfl
  have hsl1:∀W,(Instr.sliceAt 214 (.pointer (some ⟨w.heap.size,0,none⟩)) none (some (.int .i64 (Lib.nDigits u:Int))) none).run prog W=.ok (.slice (some ⟨w.heap.size,0,none⟩) (Lib.nDigits u) 24) W:=fun W=>by
   rw[run_sliceAt_array_h W 214 ⟨w.heap.size,0,none⟩ (by simp[Program.arrayLen,Program.elem,underlying214]) .i64 (Lib.nDigits u:Int) (by omega) (by rw[hal];omega)]
   go_simp
  have hH0:=zGz w 214 (Lib.nDigits u) (by omega)
  have hfmt:=Tryz.internal_strconv_formatBase10 w.heap.size 0 24 u (Array.replicate (Lib.nDigits u) 0) (w.alloc (.cells Lib.zeros24 214)) hH0 (by rw[Array.size_replicate];exact Lib.lt_pow_nDigits u) hu64 (by rw[Array.size_replicate];omega)
  rw[Array.size_replicate]at hfmt
  have HH0:=Lib.hid hH0
  have HT:=Lib.hid (Lib.tabIs_alloc htab (.cells Lib.zeros24 214))
  clear hH0 hal htab
  go_enter func172,ntmps172
  go_wp2_with (go_at_call 174;refine(Tryz.internal_strconv_numDigits u hu1 hu64 _ HT.out).mono ?_;rintro e w' ⟨rfl,rfl⟩)
  refine hfmt.mono ?_
  rintro e w' ⟨rfl,k,v',dk,hw',hF⟩
  have hcv:(convert 55 9 (.slice (some ⟨w.heap.size,0,none⟩) (Lib.nDigits u) 24)).run prog w'=.ok (.string ⟨(Lib.decDigits u).toArray⟩) w':=by
   have h:=run_convert_bytes_back (P:=prog) w' 55 9 5 ⟨w.heap.size,0,none⟩ 24 (Lib.decDigits u) underlying55 underlying5 underlying9 (fun j hj=>by
    rw[Lib.row_is_numeral hF j hj,Lib.add_plain,hw',World.cell?_drewN]
    exact cell?_putRow (fun(b:UInt8)=>Value.int .u8 (b.toNat:Int)) _ w.heap.size 0 _ dk HH0.out (by rw[hF.size,Array.size_replicate]) j (by rw[hF.size];rw[Lib.decDigits_length]at hj;exact hj))
   rw[Lib.decDigits_length]at h
   exact h
  have HO:=zAA (show Only [] w w' by
   rw[hw',alloc_eq_grow]
   obtain⟨os',_,e⟩:=putRow_grow_new (fun(b:UInt8)=>Value.int .u8 (b.toNat:Int)) w #[.cells Lib.zeros24 214] w.heap.size 0 dk (Nat.le_refl _)
   rw[e]
   exact(zJj w os').drewN k)
  clear hw' hF hfmt
  go_wp2_with fail
  go_ret
  exact zBj rfl HO.out

theorem zEm(u:Nat)(hu64:u<18446744073709551616)(w:World)(htab:Tab w) :
  Calls prog 138 #[.int .u64 u] w (zBr (Lib.decDigits u) w):=by
 have HF:=zAA (zG0 u hu64 w htab)
 clear hu64 htab
 go_enter func138,ntmps138
 go_wp2_with (first
  | (go_at_call 172;refine HF.out.mono ?_;rintro e w1 ⟨rfl,ho⟩;have HO:=zAA ho;clear ho)
  | go_in)
 go_ret
 exact zBj rfl HO.out
end
section
open Go.Proofs.Tryz
set_option maxHeartbeats 2000000
set_option maxRecDepth 100000
open Go.RowKit Go.Deep

theorem zJk:∃j,prog.info? 190=some j∧j.size=2:=Option.map_eq_some_iff.1 (show(prog.info? 190).map (·.size)=some 2 by kernel_rfl)

theorem zDi(b:Nat)(w:World)(h0:w.cell? ⟨b,0,none⟩=some (.pointer (some ⟨b,0,none⟩))) :
  Calls prog 163 #[.pointer (some ⟨b,0,none⟩)] w fun e w'=>e=.returned (.tuple #[])∧w'=w:=by
 obtain⟨j,hj,_⟩:=zJk
 go_enter func163,ntmps163
 go_wp2
 rw[Lib.run_neq_ptr_same w _ underlying188 hj]
 go_wp2
 go_end0
 exact⟨rfl,rfl⟩

theorem zDO(b:Nat)(w:World)(h0:w.cell? ⟨b,0,none⟩=some (.pointer none))(hsh:w.shape? b=some (190,2))(hfz:w.frozen? ⟨b,0,none⟩=false) :
  Calls prog 163 #[.pointer (some ⟨b,0,none⟩)] w fun e w'=>e=.returned (.tuple #[])∧w'=w.setCell ⟨b,0,none⟩ (.pointer (some ⟨b,0,none⟩)):=by
 obtain⟨j,hj,hjs⟩:=zJk
 go_enter func163,ntmps163
 go_wp2
 rw[Lib.run_to_unsafe w ⟨b,0,none⟩ underlying188 underlying211 hj (by rw[hjs];decide) hsh (Nat.zero_lt_succ 1)]
 simp only[Result.andThen]
 rw[Oper.upon_value]
 go_wp2
 rw[run_callFunc_extern func171 (by kernel_rfl) (by kernel_rfl) (by kernel_rfl) (e:=Extern.AbiNoEscape.same) (by kernel_rfl)]
 rw[Lib.run_noEscape]
 simp only[Result.andThen]
 rw[Oper.upon_value]
 go_wp2
 rw[Lib.run_from_unsafe w ⟨b,0,none⟩ underlying211 underlying188 hj hsh (by kernel_rfl)]
 simp only[Result.andThen]
 rw[Oper.upon_value]
 go_wp2
 go_end0
 exact⟨rfl,rfl⟩

theorem zHj(B b:Nat)(bs:List Value)(w:World)(h:Lib.IsBuilder 190 5 B b bs w) :
  Calls prog 163 #[.pointer (some ⟨b,0,none⟩)] w fun e w'=>e=.returned (.tuple #[])∧(Lib.BuilderAt 190 5 B b (.pointer (some ⟨b,0,none⟩)) bs w'∧Below B w w'):=by
 rcases h with h|h
 ·refine(zDO b w h.cell0 h.shape h.frozen0).mono ?_
  rintro e w' ⟨rfl,rfl⟩
  exact⟨rfl,h.used _,(Below.refl B w).setCell (p:=⟨b,0,none⟩) h.1 _⟩
 ·refine(zDi b w h.cell0).mono ?_
  rintro e w' ⟨rfl,rfl⟩
  exact⟨rfl,h,Below.refl B _⟩

theorem zIQ{b:Nat}{w:World}{o:Obj}(h:w.heap[b]?=some o):b<w.heap.size:=by
 rcases Nat.lt_or_ge b w.heap.size with h'|h'
 ·exact h'
 ·simp[Array.getElem?_eq_none h']at h

theorem zBL(B b:Nat)(bs:List Value)(c:Int)(w:World)(h:Lib.IsBuilder 190 5 B b bs w)(hlen:bs.length+1<=140737488355328)(hBw:B<=w.heap.size) :
  Calls prog 135 #[.pointer (some ⟨b,0,none⟩),.int .u8 c] w fun e w'=>e=.returned .nilIface∧(Lib.IsBuilder 190 5 B b (bs++[.int .u8 c]) w'∧Below B w w'):=by
 obtain⟨i0,hi,hz0,hz1,hz2⟩:=info_parts (show(prog.info? 5).map (fun i=>(i.zero,i.size,i.bytes))=some (some (.int .u8 0),1,1)by kernel_rfl)
 go_enter func135,ntmps135
 go_wp2_with (go_at_call 163;refine(zHj B b bs _ h).mono ?_)
 rintro e w1 ⟨rfl,h1,hb1⟩
 obtain⟨hB,v,hbk,hown,hne⟩:=h1
 have c0:w1.cell? ⟨b,0,none⟩=some (.pointer (some ⟨b,0,none⟩)):=by rw[Lib.cell_of_heap hbk];rfl
 have c1:w1.cell? ⟨b,1,none⟩=some v:=by rw[Lib.cell_of_heap hbk];rfl
 go_wp2_with (at_builtin;refine wpList_append_own _ rfl _ _ 55 rfl B 5 i0 (.int .u8 0) 1 1 underlying55 hi hz0 hz1 hz2 rfl (by decide) _ _ _ rfl (hown.alloc _) ⟨w1.heap.size,0,none⟩ 1 1 [.int .u8 c] rfl rfl ?c1 ?c2 ?c3 ?c4 ?c5 ?_)
 case c1 =>
  intro j u hj
  match j,hj with
  | 0,hj=>simp at hj;subst hj;simp[Addr.add]
 case c2=>intro u hu;simp at hu;subst hu;rfl
 case c3=>unfold maxLen;omega
 case c4=>omega
 case c5=>have:=hb1.size;simp;omega
 intro v' w2 hown' hgrow _
 have hlt:b<w1.heap.size:=zIQ hbk
 have hb2:w2.heap[b]?=some (.cells #[.pointer (some ⟨b,0,none⟩),v] 190 (0,0)):=by
  rw[hgrow.block b (by simp;omega) (fun e=>hne e.symm),Lib.alloc_old w1 _ b hlt]
  exact hbk
 have d0:w2.cell? ⟨b,0,none⟩=some (.pointer (some ⟨b,0,none⟩)):=by rw[Lib.cell_of_heap hb2];rfl
 have d1:w2.cell? ⟨b,1,none⟩=some v:=by rw[Lib.cell_of_heap hb2];rfl
 have f1:w2.frozen? ⟨b,1,none⟩=false:=Lib.frozen_of_heap hb2 1
 obtain⟨g,cap,rfl⟩:∃g cap,v'=.slice (some ⟨g,0,none⟩) (bs.length+1) cap:=by
  rcases hown'.2 with ⟨_,h0⟩|⟨g,cap,cur,hv,_⟩
  ·omega
  ·exact⟨g,cap,hv⟩
 go_wp2
 go_ret
 refine⟨rfl,?_,?_⟩
 ·exact .inr (Lib.BuilderAt.put (T:=190) (e:=5) hB hb2 (bs':=bs++[.int .u8 c]) (by simpa using hown') (by decide))
 ·exact((hb1.alloc (by have:=hb1.size;omega) _).grown hgrow (by have:=hb1.size;simp;omega) (fun k hk=>(hown.lt k hk).1)).setCell (p:=⟨b,1,none⟩) hB _

theorem zBC(B b:Nat)(bs:List Value)(s:ByteArray)(w:World)(h:Lib.IsBuilder 190 5 B b bs w)(hlen:bs.length+s.size<=140737488355328)(hBw:B<=w.heap.size) :
  Calls prog 137 #[.pointer (some ⟨b,0,none⟩),.string s] w fun e w'=>e=.returned (.tuple #[.int .i64 s.size,.nilIface])∧(Lib.IsBuilder 190 5 B b (bs++Lib.strCells s) w'∧Below B w w'):=by
 obtain⟨i0,hi,hz0,hz1,hz2⟩:=info_parts (show(prog.info? 5).map (fun i=>(i.zero,i.size,i.bytes))=some (some (.int .u8 0),1,1)by kernel_rfl)
 go_enter func137,ntmps137
 go_wp2_with (go_at_call 163;refine(zHj B b bs _ h).mono ?_)
 rintro e w1 ⟨rfl,h1,hb1⟩
 obtain⟨hB,v,hbk,hown,hne⟩:=h1
 have c0:w1.cell? ⟨b,0,none⟩=some (.pointer (some ⟨b,0,none⟩)):=by rw[Lib.cell_of_heap hbk];rfl
 have c1:w1.cell? ⟨b,1,none⟩=some v:=by rw[Lib.cell_of_heap hbk];rfl
 go_wp2_with (at_builtin;refine Lib.wpList_append_own_string _ rfl _ _ 55 9 rfl B 5 i0 underlying55 underlying9 hi hz0 hz1 hz2 _ _ _ rfl hown s rfl ?c3 ?c4 ?c5 ?_)
 case c3=>unfold maxLen;omega
 case c4=>omega
 case c5=>have:=hb1.size;omega
 intro v' w2 hown' hgrow _
 have hlt:b<w1.heap.size:=zIQ hbk
 have hb2:w2.heap[b]?=some (.cells #[.pointer (some ⟨b,0,none⟩),v] 190 (0,0)):=by
  rw[hgrow.block b hlt (fun e=>hne e.symm)]
  exact hbk
 have d0:w2.cell? ⟨b,0,none⟩=some (.pointer (some ⟨b,0,none⟩)):=by rw[Lib.cell_of_heap hb2];rfl
 have d1:w2.cell? ⟨b,1,none⟩=some v:=by rw[Lib.cell_of_heap hb2];rfl
 have f1:w2.frozen? ⟨b,1,none⟩=false:=Lib.frozen_of_heap hb2 1
 obtain⟨ao,n',cap,rfl⟩:∃ao n' cap,v'=.slice ao n' cap:=by
  rcases hown'.2 with ⟨hv,_⟩|⟨g,cap,cur,hv,_⟩
  ·exact⟨_,_,_,hv⟩
  ·exact⟨_,_,_,hv⟩
 go_wp2
 go_ret2
 refine⟨rfl,?_,?_⟩
 ·exact .inr (Lib.BuilderAt.put (T:=190) (e:=5) hB hb2 (bs':=bs++Lib.strCells s) (by simpa [Lib.strCells_length] using hown') (by decide))
 ·exact(hb1.grown hgrow (by have:=hb1.size;omega) (fun k hk=>(hown.lt k hk).1)).setCell (p:=⟨b,1,none⟩) hB _
end
section
open Go.Proofs.Tryz
set_option maxHeartbeats 3200000
set_option maxRecDepth 100000
open Go.RowKit Go.Deep Go.Maps Go.WideMaps

def letL:List (Int×Int):=[(1,48),(2,97),(3,110),(4,120),(5,112),(6,100),(7,104),(8,107),(9,109),(10,115),(11,108)]
def letD:DataW Unit:=letL.foldl (fun D p=>D.put (.int .i64 p.1) (.lit (.int .u8 p.2))) (.map [])

theorem zD3{H:Type}{P:Program}(w:World){ops:Array Oper}{rest:List Oper}{o:Oper}{a:Act}{Q:Exit->Act->World->Prop}
  (hg:o.guard=none) (m x v:Operand) (t:TypeId) (hop:o.op=Op.insert t m x v)
  (k e:TypeId) (K:Keyed P k) (ht:P.underlying t=some (.map k e)) (R:Value->Option (DataW H×List MemPlace)) (b n:Nat) (D:DataW H)
  (hm:a.eval m=.map (some b)) (hown:w.ownsMap P k R b n D) (hn:n<maxLen) (key val:Value) (kl:Lit) (hx:a.eval x=key) (hv:a.eval v=val) (hkey:keyOf P k key=some kl)
  (d:DataW H) (ps:List MemPlace) (hval:R val=some (d,ps))
  (hK:∀w',w'.ownsMap P k R b (n+1) (D.put kl d)->w.grownBy w' (some b)->wpList P ops Q rest (a.put o.dst undef) w') :
  wpList P ops Q (o::rest) a w:=by
 refine wpList_plain hg fun K' hK'=>?_
 obtain⟨w',hrun,r1,r2⟩:=hown.update K ht hn hkey hval
 unfold Oper.wp
 simp[execOp,hop,hm,hx,hv,hrun,Result.andThen]
 exact hK' _ _ (hK w' r1 r2)

theorem zIR(k:Int)(hk:(Lit.int .i64 k).wf=true)(w:World):Calls prog 111 #[.int .i64 k] w fun e w'=>∃c,e=.returned (.int .u8 c)∧letD.atKey (.int .i64 k) (.lit (.int .u8 0))=.lit (.int .u8 c)∧Only [] w w':=by
 have hmm:=@run_makeMap prog
 have hown:(w.alloc (.map #[] 0)).ownsMap prog 3 (plainElem (H:=Unit) prog 5) w.heap.size 0 (.map []):=World.ownsMap_made _ _ _ _
 have HO:=zAA ((Only.refl [] w).alloc (.map #[] 0))
 go_enter func111,ntmps111
 go_wp2_with (first
  | (refine zD3 _ rfl _ _ _ 185 rfl 3 5 (int_keyed underlying3) underlying185 _ w.heap.size _ _ rfl hown (by unfold maxLen;omega) _ _ _ rfl rfl (keyOf_int_mk underlying3 (by decide)) _ [] (plainElem_int underlying5 (by decide)) ?_;intro w1 hown1 hgrow1;have HO:=zAA (HO.out.grown hgrow1 (fun j hj=>.inr (by cases hj;exact Nat.le_refl _)));have hown:=hown1;clear hown1 hgrow1)
  | (at_lookup;refine wpList_lookup_own_int _ rfl _ _ 185 rfl 3 5 .u8 (int_keyed underlying3) underlying185 underlying5 (by kernel_rfl) w.heap.size _ _ rfl hown _ _ rfl (keyOf_int_mk underlying3 hk) ?_;intro c hat _))
 go_ret
 exact⟨c,rfl,hat,HO.out⟩
end
section
open Go.RowKit Go.Deep

abbrev IsB(B b:Nat)(bs:List Value)(w:World):Prop:=Lib.IsBuilder 190 5 B b bs w
theorem zC3{B b:Nat}{bs:List Value}{w w':World}(h:IsB B b bs w)(ho:Only [] w w'):IsB B b bs w':=by
 rcases h with h|h
 ·obtain⟨hB,v,hb,hown,hne⟩:=h
  exact .inl ⟨hB,v,(ho.block b (zIQ hb) (by simp)).trans hb,zAa hown ho (by simp),hne⟩
 ·obtain⟨hB,v,hb,hown,hne⟩:=h
  exact .inr ⟨hB,v,(ho.block b (zIQ hb) (by simp)).trans hb,zAa hown ho (by simp),hne⟩
theorem zAb{w w':World}(h:Below w.heap.size w w'):Only [] w w':=⟨h.os,h.tape,h.output,h.size,fun k hk _=>h.block k hk⟩
theorem zBE{B:Nat}{w w':World}(h:Only [] w w')(hB:B<=w.heap.size):Below B w w':=h.below (fun x hx=>by cases hx) hB
end
section
open Go.RowKit Go.Deep

theorem zA6(bs:List UInt8)(c:UInt8):Lib.byteCells bs++[Value.int .u8 (c.toNat:Int)]=Lib.byteCells (bs++[c]):=by simp[Lib.byteCells]
theorem zDj(bs l:List UInt8):Lib.byteCells bs++Lib.strCells ⟨l.toArray⟩=Lib.byteCells (bs++l):=by simp[Lib.byteCells,Lib.strCells]
theorem zA7(bs:List UInt8):(Lib.byteCells bs).length=bs.length:=by simp[Lib.byteCells]
theorem zAk{B b:Nat}{bs cs:List Value}{w:World}(h:IsB B b bs w)(e:bs=cs):IsB B b cs w:=e▸h
end
end Go.Proofs.YtfipdjlalfpbnaaGreatDoor
