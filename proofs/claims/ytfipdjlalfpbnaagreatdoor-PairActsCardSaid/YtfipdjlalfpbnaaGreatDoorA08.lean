/-
  Walks and plain words (texts Ret, Pa0, Hex, Nr1, Nr2, Nr3). No condition beyond those that each theorem states.
-/
import Derived.Lib.ItoaMem
import Derived.StillTailTactics
import Derived.Test.YtfipdjlalfpbnaaGreatDoorA07
namespace Go.Proofs.YtfipdjlalfpbnaaGreatDoor
section
open Go.RowKit Go.Deep

def zAn(r:Bool)(w:World)(e:Ending)(w':World):Prop:=e=.returned (.bool r)∧Only [] w w'
theorem zBz{r s:Bool}{w w':World}(h:r=s)(ho:Only [] w w'):zAn r w (.returned (.bool s)) w':=by subst h;exact⟨rfl,ho⟩
theorem zAC{P:Program}{fn:Func}{p q:Tmp}{ty:TypeId}(h:fn.results=#[.cell p ty,.tmp q])(tmps:Array Value)(w:World)(g:Nat)(t:TypeId)(cs:Array Value)(fr:Nat×Nat)(d:TypeDesc)
  (hp:tmps.getD p undef=.pointer (some ⟨g,0,none⟩)) (hg:w.heap[g]?=some (.cells cs t fr))
  (hu:P.underlying ty=some d) (hd:(match d with | .struct _ | .array _ _=>true|_=>false)=true) (hi:(P.info? ty).map (·.size)=some cs.size) :
  (results fn tmps).run P w=.ok (.tuple #[.agg cs,tmps.getD q undef]) w:=by
 have hp':tmps[p]?.getD undef=.pointer (some ⟨g,0,none⟩):=by simpa using hp
 simp[results,h,hp',asAddr,run_loadVar_row w g t ty cs fr d hg hu hd hi]
end
section
open Go.Proofs.Tryz
set_option maxHeartbeats 12800000
set_option maxRecDepth 100000
open Go.RowKit Go.Deep

theorem WinSet.blk{w:World}{c:Nat}{L:List Nat}(h:WinSet w c L):∃cs,Blk w c 165 cs:=by
 obtain⟨B,⟨ws,hb,_⟩,_⟩:=h
 exact⟨_,hb.1⟩
theorem zHT{w:World}{c:Nat}(h:Blk w c 165 zDP):WinSet w c [] :=
 WinSet.new ⟨List.replicate 32 0,⟨by rw[show(zAy (List.replicate 32 0) 0 false).toArray=zDP from rfl];exact h,by simp,fun x hx=>by rw[List.eq_of_mem_replicate hx];omega,by omega⟩,fun i hi=>by
  unfold zIz
  have e:(List.replicate 32 0).getD (i / 64) 0=0:=by
   rw[List.getD_eq_getElem?_getD,List.getElem?_replicate]
   split<;>rfl
  rw[e];simp⟩
def zBn(made now:Int):Int:=if made<=now then now-made else 0
theorem zAT(t:Int):zAc t=true↔0<=t∧t<=1125899906842624:=by unfold zAc;simp
theorem zI5(w:World)(g c:Nat)(s1 s2:ByteArray)(lo re:Int)(beg:Bool)(made sent:Int)(h:PairIs w g c s1 s2 lo re beg made sent)(now:Int)(h1:0<=made)(h2:made<=1125899906842624)(h3:0<=now)(h4:now<=1125899906842624):Calls prog 115 #[.pointer (some ⟨g,0,none⟩),.int .i64 now] w fun e w'=>e=.returned (.int .i64 (zBn made now))∧w=w':=by
 have H:=zAA h
 have c0:=H.out.cell 0;have c1:=H.out.cell 1;have c2:=H.out.cell 2;have c3:=H.out.cell 3;have c4:=H.out.cell 4;have c5:=H.out.cell 5;have c6:=H.out.cell 6;have c7:=H.out.cell 7;simp at c0 c1 c2 c3 c4 c5 c6 c7
 clear h
 by_cases hk:made<=now
 ·have HV:=zAA (show zBn made now=now-made by unfold zBn;rw[if_pos hk])
  have hz:¬(now-made<0):=by omega
  have hz2:(0:Int)<=now-made:=by omega
  have hwr:IntKind.i64.wrap (now-made)=now-made:=by rw[IntKind.wrap_i64];omega
  go_enter func115,ntmps115
  go_wp2_with fail
  go_ret
  exact⟨by rw[HV.out];first|rfl|exact congrArg (fun x=>Ending.returned (Value.int .i64 x)) (show max (now-made) 0=_ by omega),rfl⟩
 ·have HV:=zAA (show zBn made now=0 by unfold zBn;rw[if_neg hk])
  have hz:now-made<0:=by omega
  have hwr:IntKind.i64.wrap (now-made)=now-made:=by rw[IntKind.wrap_i64];omega
  go_enter func115,ntmps115
  go_wp2_with fail
  go_ret
  exact⟨by rw[HV.out];first|rfl|exact congrArg (fun x=>Ending.returned (Value.int .i64 x)) (show max (now-made) 0=_ by omega),rfl⟩
theorem zBT(w:World)(g c:Nat)(s1 s2:ByteArray)(lo re:Int)(beg:Bool)(made sent:Int)(h:PairIs w g c s1 s2 lo re beg made sent)(now:Int)(h1:0<=made)(h2:made<=1125899906842624)(h3:0<=now)(h4:now<=1125899906842624):Calls prog 71 #[.pointer (some ⟨g,0,none⟩),.int .i64 now] w fun e w'=>e=.returned (.bool (decide (180000<=zBn made now)))∧w=w':=by
 have HAG:=zAA (zI5 w g c s1 s2 lo re beg made sent h now h1 h2 h3 h4)
 clear h h1 h2 h3 h4
 generalize zBn made now=a at *
 go_enter func71,ntmps71
 go_wp2_with (go_at_call 115;refine HAG.out.mono ?_;rintro e wz ⟨rfl,rfl⟩)
 go_ret
 exact⟨by simp,rfl⟩
theorem zH5(w:World)(g c:Nat)(s1 s2:ByteArray)(lo re:Int)(beg:Bool)(made sent:Int)(h:PairIs w g c s1 s2 lo re beg made sent):Calls prog 80 #[.pointer (some ⟨g,0,none⟩)] w fun e w'=>e=.returned (.int .u32 lo)∧w=w':=by
 have H:=zAA h
 have c0:=H.out.cell 0;have c1:=H.out.cell 1;have c2:=H.out.cell 2;have c3:=H.out.cell 3;have c4:=H.out.cell 4;have c5:=H.out.cell 5;have c6:=H.out.cell 6;have c7:=H.out.cell 7;simp at c0 c1 c2 c3 c4 c5 c6 c7
 clear h
 go_enter func80,ntmps80
 go_wp2_with fail
 go_ret
 exact⟨rfl,rfl⟩
theorem zGo(w:World)(g c:Nat)(s1 s2:ByteArray)(lo re:Int)(beg:Bool)(made sent:Int)(h:PairIs w g c s1 s2 lo re beg made sent):Calls prog 81 #[.pointer (some ⟨g,0,none⟩)] w fun e w'=>e=.returned (.int .u32 re)∧w=w':=by
 have H:=zAA h
 have c0:=H.out.cell 0;have c1:=H.out.cell 1;have c2:=H.out.cell 2;have c3:=H.out.cell 3;have c4:=H.out.cell 4;have c5:=H.out.cell 5;have c6:=H.out.cell 6;have c7:=H.out.cell 7;simp at c0 c1 c2 c3 c4 c5 c6 c7
 clear h
 go_enter func81,ntmps81
 go_wp2_with fail
 go_ret
 exact⟨rfl,rfl⟩
theorem zKa(w:World)(g c:Nat)(s1 s2:ByteArray)(lo re:Int)(beg:Bool)(made sent:Int)(h:PairIs w g c s1 s2 lo re beg made sent):Calls prog 82 #[.pointer (some ⟨g,0,none⟩)] w fun e w'=>e=.returned (.bool beg)∧w=w':=by
 have H:=zAA h
 have c0:=H.out.cell 0;have c1:=H.out.cell 1;have c2:=H.out.cell 2;have c3:=H.out.cell 3;have c4:=H.out.cell 4;have c5:=H.out.cell 5;have c6:=H.out.cell 6;have c7:=H.out.cell 7;simp at c0 c1 c2 c3 c4 c5 c6 c7
 clear h
 go_enter func82,ntmps82
 go_wp2_with fail
 go_ret
 exact⟨rfl,rfl⟩
theorem zI6(w:World)(g c:Nat)(s1 s2:ByteArray)(lo re:Int)(beg:Bool)(made sent:Int)(h:PairIs w g c s1 s2 lo re beg made sent):Calls prog 83 #[.pointer (some ⟨g,0,none⟩)] w fun e w'=>e=.returned (.int .i64 made)∧w=w':=by
 have H:=zAA h
 have c0:=H.out.cell 0;have c1:=H.out.cell 1;have c2:=H.out.cell 2;have c3:=H.out.cell 3;have c4:=H.out.cell 4;have c5:=H.out.cell 5;have c6:=H.out.cell 6;have c7:=H.out.cell 7;simp at c0 c1 c2 c3 c4 c5 c6 c7
 clear h
 go_enter func83,ntmps83
 go_wp2_with fail
 go_ret
 exact⟨rfl,rfl⟩
theorem zI7(w:World)(g c:Nat)(s1 s2:ByteArray)(lo re:Int)(beg:Bool)(made sent:Int)(h:PairIs w g c s1 s2 lo re beg made sent):Calls prog 84 #[.pointer (some ⟨g,0,none⟩)] w fun e w'=>e=.returned (.int .u64 sent)∧w=w':=by
 have H:=zAA h
 have c0:=H.out.cell 0;have c1:=H.out.cell 1;have c2:=H.out.cell 2;have c3:=H.out.cell 3;have c4:=H.out.cell 4;have c5:=H.out.cell 5;have c6:=H.out.cell 6;have c7:=H.out.cell 7;simp at c0 c1 c2 c3 c4 c5 c6 c7
 clear h
 go_enter func84,ntmps84
 go_wp2_with fail
 go_ret
 exact⟨rfl,rfl⟩
theorem zF7(w:World)(g c:Nat)(s1 s2:ByteArray)(lo re:Int)(beg:Bool)(made:Int)(sent n:Nat)(h:PairIs w g c s1 s2 lo re beg made sent):Calls prog 34 #[.pointer (some ⟨g,0,none⟩),.int .u64 n] w fun e w'=>e=.returned (.int .i64 (if n<sent then 2 else 0))∧PairIs w' g c s1 s2 lo re beg made (if n<sent then sent else n:Nat)∧Only [g] w w':=by
 have H:=zAA h
 have c0:=H.out.cell 0;have c1:=H.out.cell 1;have c2:=H.out.cell 2;have c3:=H.out.cell 3;have c4:=H.out.cell 4;have c5:=H.out.cell 5;have c6:=H.out.cell 6;have c7:=H.out.cell 7;simp at c0 c1 c2 c3 c4 c5 c6 c7
 have cf:=H.out.frozen
 clear h
 by_cases hk:n<sent
 ·rw[if_pos hk,if_pos hk]
  have h1:(n:Int)<sent:=by omega
  clear hk
  go_enter func34,ntmps34
  go_wp2_with fail
  go_ret
  exact⟨rfl,H.out,Only.refl _ _⟩
 ·rw[if_neg hk,if_neg hk]
  have h1:¬(n:Int)<sent:=by omega
  clear hk
  go_enter func34,ntmps34
  go_wp2_with fail
  go_ret
  exact⟨rfl,Blk.set_ H.out 6 _,(Only.refl _ _).setCell (.inl (by simp)) _⟩
theorem zH6(w:World)(g c:Nat)(s1 s2:ByteArray)(lo re:Int)(beg:Bool)(made:Int)(sent:Nat)(h:PairIs w g c s1 s2 lo re beg made sent)(now:Int)(h1:0<=made)(h2:made<=1125899906842624):Calls prog 85 #[.pointer (some ⟨g,0,none⟩),.int .i64 now] w fun e w'=>e=.returned (.bool (zAc now&&(!decide (180000<=zBn made now)&&decide (sent<18446744073709543423))))∧w=w':=by
 have HT:=zAA (fun W=>zAx now W)
 have HOL:=zAA (fun(ht:zAc now=true)=>zBT w g c s1 s2 lo re beg made sent h now h1 h2 ((zAT now).1 ht).1 ((zAT now).1 ht).2)
 have H:=zAA h
 have c0:=H.out.cell 0;have c1:=H.out.cell 1;have c2:=H.out.cell 2;have c3:=H.out.cell 3;have c4:=H.out.cell 4;have c5:=H.out.cell 5;have c6:=H.out.cell 6;have c7:=H.out.cell 7;simp at c0 c1 c2 c3 c4 c5 c6 c7
 have hcm:((sent:Int)<18446744073709543423)=(sent<18446744073709543423):=by rw[show(18446744073709543423:Int)=((18446744073709543423:Nat):Int)by rfl];exact propext Int.ofNat_lt
 clear h h1 h2
 cases ht:zAc now with
 | false =>
  rw[ht]at HT
  clear ht hcm
  go_enter func85,ntmps85
  go_wp2_with (go_at_call 69;refine(HT.out _).mono ?_;rintro e wz ⟨rfl,rfl⟩)
  go_ret
  exact⟨rfl,rfl⟩
 | true =>
  rw[ht]at HT
  replace HOL:=zAA (HOL.out ht)
  clear ht
  cases ho:decide (180000<=zBn made now)with
  | true =>
   rw[ho]at HOL
   clear ho hcm
   go_enter func85,ntmps85
   go_wp2_with (first|(go_at_call 69;refine(HT.out _).mono ?_;rintro e wz ⟨rfl,rfl⟩)|(go_at_call 71;refine HOL.out.mono ?_;rintro e wz ⟨rfl,rfl⟩))
   go_ret
   exact⟨rfl,rfl⟩
  | false =>
   rw[ho]at HOL
   clear ho
   by_cases hk:sent<18446744073709543423
   ·have h3:decide ((sent:Int)<18446744073709543423)=true:=by rw[decide_eq_true_iff];omega
    have HK:=zAA hk
    clear hk hcm
    go_enter func85,ntmps85
    go_wp2_with (first|(go_at_call 69;refine(HT.out _).mono ?_;rintro e wz ⟨rfl,rfl⟩)|(go_at_call 71;refine HOL.out.mono ?_;rintro e wz ⟨rfl,rfl⟩))
    go_ret
    exact⟨by rw[decide_eq_true HK.out];rfl,rfl⟩
   ·have h3:decide ((sent:Int)<18446744073709543423)=false:=by rw[decide_eq_false_iff_not];omega
    have HK:=zAA hk
    clear hk hcm
    go_enter func85,ntmps85
    go_wp2_with (first|(go_at_call 69;refine(HT.out _).mono ?_;rintro e wz ⟨rfl,rfl⟩)|(go_at_call 71;refine HOL.out.mono ?_;rintro e wz ⟨rfl,rfl⟩))
    go_ret
    exact⟨by rw[decide_eq_false HK.out];rfl,rfl⟩
theorem zH7(w:World)(g c:Nat)(s1 s2:ByteArray)(lo re:Int)(beg:Bool)(made sent:Int)(h:PairIs w g c s1 s2 lo re beg made sent)(now after:Int)(h1:0<=made)(h2:made<=1125899906842624):Calls prog 86 #[.pointer (some ⟨g,0,none⟩),.int .i64 now,.int .i64 after] w fun e w'=>e=.returned (.bool (zAc now&&(beg&&decide (after<=zBn made now))))∧w=w':=by
 have HT:=zAA (fun W=>zAx now W)
 have HAG:=zAA (fun(ht:zAc now=true)=>zI5 w g c s1 s2 lo re beg made sent h now h1 h2 ((zAT now).1 ht).1 ((zAT now).1 ht).2)
 have H:=zAA h
 have c0:=H.out.cell 0;have c1:=H.out.cell 1;have c2:=H.out.cell 2;have c3:=H.out.cell 3;have c4:=H.out.cell 4;have c5:=H.out.cell 5;have c6:=H.out.cell 6;have c7:=H.out.cell 7;simp at c0 c1 c2 c3 c4 c5 c6 c7
 clear h h1 h2
 cases ht:zAc now with
 | false =>
  rw[ht]at HT
  clear ht
  go_enter func86,ntmps86
  go_wp2_with (go_at_call 69;refine(HT.out _).mono ?_;rintro e wz ⟨rfl,rfl⟩)
  go_ret
  exact⟨rfl,rfl⟩
 | true =>
  rw[ht]at HT
  replace HAG:=zAA (HAG.out ht)
  clear ht
  cases beg with
  | false =>
   go_enter func86,ntmps86
   go_wp2_with (go_at_call 69;refine(HT.out _).mono ?_;rintro e wz ⟨rfl,rfl⟩)
   go_ret
   exact⟨rfl,rfl⟩
  | true =>
   generalize zBn made now=a at *
   go_enter func86,ntmps86
   go_wp2_with (first|(go_at_call 69;refine(HT.out _).mono ?_;rintro e wz ⟨rfl,rfl⟩)|(go_at_call 115;refine HAG.out.mono ?_;rintro e wz ⟨rfl,rfl⟩))
   go_ret
   exact⟨by simp,rfl⟩
end
section
open Go.Proofs.Tryz
set_option maxHeartbeats 6400000
set_option maxRecDepth 100000
open Go.RowKit Go.Deep

def hd(n:Nat):UInt8:=if n<10 then UInt8.ofNat (48+n)else UInt8.ofNat (87+n)
theorem zLS(n:Nat)(h:n<16):(hd n).toNat=if n<10 then 48+n else 87+n:=by
 unfold hd;split<;>simp[UInt8.toNat_ofNat']<;>omega
def zCs:List UInt8->List UInt8
 | []=>[]
 | b::r=>hd (b.toNat / 16)::hd (b.toNat % 16)::zCs r
theorem zDQ:∀l m:List UInt8,zCs (l++m)=zCs l++zCs m
 | [],m=>rfl
 | b::r,m=>by simp only[List.cons_append,zCs,zDQ r m]
theorem zBP:∀l:List UInt8,(zCs l).length=2*l.length
 | []=>rfl
 | b::r=>by simp only[zCs,List.length_cons,zBP r];omega
theorem zLT(n:Nat)(h:n<16)(W:World):(Instr.index 9 (.string ⟨#[48,49,50,51,52,53,54,55,56,57,97,98,99,100,101,102]⟩) (.int .u8 (n:Int))).run prog W=.ok (.int .u8 ((hd n).toNat:Int)) W:=by
 rcases(show n=0∨n=1∨n=2∨n=3∨n=4∨n=5∨n=6∨n=7∨n=8∨n=9∨n=10∨n=11∨n=12∨n=13∨n=14∨n=15 by omega)with rfl|rfl|rfl|rfl|rfl|rfl|rfl|rfl|rfl|rfl|rfl|rfl|rfl|rfl|rfl|rfl
 all_goals kernel_rfl
theorem zI8(w:World)(e:TypeId)(x y:Value)(B:Nat)(hB:w.heap.size<B):Reads (w.alloc (.cells #[x,y] e)) B 1 (some ⟨w.heap.size,0,none⟩) 2 [x,y] :=
 ⟨rfl,fun _=>⟨_,rfl,hB,fun j u hu=>by
  rw[zD6,Nat.zero_add,(Blk.new w e #[x,y]).cell j]
  simpa using hu⟩⟩
theorem zEX{α:Type}(l:List α)(k:Nat)(x:α)(h:l[k]?=some x):l.take (k+1)=l.take k++[x]:=by
 rw[List.take_add_one,h];rfl
theorem zLp{v:Value}{w':World}{B e k:Nat}{l:List UInt8}{c:UInt8}(h:w'.ownsRow B e 1 v (2*k+2) (zBR .u8 (zBo (zCs (l.take k)))++[.int .u8 ((hd (c.toNat / 16)).toNat:Int),.int .u8 ((hd (c.toNat % 16)).toNat:Int)]))(hc:l[k]?=some c) :
  w'.ownsRow B e 1 v (2*(k+1)) (zBR .u8 (zBo (zCs (l.take (k+1))))):=by
 rw[zEX l k c hc,zDQ,zEM,<-zDM]
 exact h
def zBr(l:List UInt8)(w:World)(e:Ending)(w':World):Prop:=e=.returned (.string ⟨l.toArray⟩)∧Only [] w w'
theorem zBj{l m:List UInt8}{w w':World}(h:l=m)(ho:Only [] w w'):zBr l w (.returned (.string ⟨m.toArray⟩)) w':=by subst h;exact⟨rfl,ho⟩

theorem zLq(w:World)(N:List Nat)(v:Value)(l:List UInt8)(hv:Rd w N v (zBR .u8 (zBo l)))(hl:l.length<=1000000) :
  Calls prog 139 #[v] w (zBr (zCs l) w):=by
 obtain⟨A,cap,rfl,hcap,hmx⟩:=hv.formb
 have HV:=zAA hv
 obtain⟨n,hn⟩:∃n,n=l.length:=⟨_,rfl⟩
 have HN:=zAA hn
 rw[<-hn]at hcap HV hl ⊢
 clear hv hn
 obtain⟨i0,hi,hz0,hz1,hz2⟩:=info_parts (show(prog.info? 5).map (fun i=>(i.zero,i.size,i.bytes))=some (some (.int .u8 0),1,1)by kernel_rfl)
 have hwl:IntKind.i64.wrap (2*(n:Int))=2*(n:Int):=IntWalk.i64_in _ (by omega)
 have hmk:∀W,(Instr.makeSlice 55 (.int .i64 0) (.int .i64 (2*(n:Int)))).run prog W=.ok (.slice (some ⟨W.heap.size,0,none⟩) 0 (2*n)) (W.alloc (.cells (Array.replicate (2*n) (.int .u8 0)) 5)):=by
  intro W
  exact zD7 W 55 5 i0 _ underlying55 hi hz0 hz1 rfl .i64 .i64 0 (2*n) (Nat.zero_le _) (by rw[hz2];omega) (by omega)
 have HOW:=zAA (World.ownsRow_made (base:=w.heap.size) w (Array.replicate (2*n) (.int .u8 0)) (2*n) (Nat.le_refl _) (by unfold maxLen;omega) (e:=5) (size:=1) (by simp))
 have HO:=zAA ((Only.refl [] w).alloc (.cells (Array.replicate (2*n) (.int .u8 0)) 5))
 go_enter func139,ntmps139
 go_wp2_with fail
 obtain⟨w0,hw0⟩:∃w0,w0=w.alloc (.cells (Array.replicate (2*n) (.int .u8 0)) 5):=⟨_,rfl⟩
 rw[<-hw0]at HOW HO ⊢
 have hsz:w.heap.size<=w0.heap.size:=HO.out.size
 clear hw0 hmk hwl
 go_loopw [3,12] (fun v i wr=>∃k:Nat,k<=n∧i=.int .i64 k∧Hid (wr.ownsRow w.heap.size 5 1 v (2*k) (zBR .u8 (zBo (zCs (l.take k)))))∧Hid (Only [] w wr)) (fun _ i _=>n-(intOf i).toNat)
 case atStart=>exact⟨0,Nat.zero_le _,rfl,HOW,HO⟩
 case round =>
  obtain⟨k,hk,rfl,how,ho⟩:=hrel
  by_cases hlt:k<n
  ·have hlt':(k:Int)<n:=by omega
   have hkl:k<l.length:=by rw[<-HN.out];exact hlt
   obtain⟨c,hc⟩:∃c,l[k]?=some c:=⟨l[k],List.getElem?_eq_getElem hkl⟩
   have HC:=zAA hc
   obtain⟨g,o,rfl,_,hg,hcell⟩:=HV.out.at_.2.2.2 k (.int .u8 (c.toNat:Int)) (zDU (zFI hc))
   have c1:wr.cell? ⟨g,o+k,none⟩=some (.int .u8 (c.toNat:Int)):=(zAX ho.out hg (by simp)).trans hcell
   have hc256:=c.toNat_lt
   have hcI:(c.toNat:Int)<256:=by omega
   have hA:=fun W=>zLT (c.toNat / 16) (by omega) W
   have hB:=fun W=>zLT (c.toNat % 16) (by omega) W
   rw[show((c.toNat / 16:Nat):Int)=(c.toNat:Int) / 16 by omega]at hA
   rw[show((c.toNat % 16:Nat):Int)=(c.toNat:Int) % 16 by omega]at hB
   have hband:bits .and .u8 (c.toNat:Int) 15=(c.toNat:Int) % 16:=u8_and15 _ (by omega) (by omega)
   obtain⟨Av,cv,rfl,hjc,hcm⟩:=zAh how.out
   have HSZ:=zAA ho.out.size
   obtain⟨x,hx⟩:∃x,x=(hd (c.toNat / 16)).toNat:=⟨_,rfl⟩
   obtain⟨y,hy⟩:∃y,y=(hd (c.toNat % 16)).toNat:=⟨_,rfl⟩
   rw[<-hx]at hA
   rw[<-hy]at hB
   have HX:=zAA hx
   have HY:=zAA hy
   have HOW2:=zAA (World.ownsRow.alloc (zAa how.out ((Only.refl [] wr).drew) (by simp)) (.cells #[.int .u8 (x:Int),.int .u8 (y:Int)] 5))
   have HO2:=zAA (ho.out.drew.alloc (.cells #[.int .u8 (x:Int),.int .u8 (y:Int)] 5))
   have HRN:=zAA (zI8 wr.drew 5 (.int .u8 (x:Int)) (.int .u8 (y:Int)) (wr.heap.size+1) (Nat.lt_succ_self _))
   clear hc hcell hx hy
   go_upto_region 5 with (fail)
   go_region_held3 (fun _=>True) (exact trivial)
    (first
    | (refine zAt _ rfl (.tmp 16) (.tmp 23) 55 rfl w.heap.size 5 i0 (.int .u8 0) 1 1 underlying55 hi hz0 hz1 hz2 rfl (by decide) _ (2*k) _ rfl HOW2.out _ _ 2 2 [.int .u8 (x:Int),.int .u8 (y:Int)] rfl HRN.out (by simp[Value.oneCell']) (by unfold maxLen;omega) (by omega) (by have:=HSZ.out;simp;omega) ?_;intro v1 w3 hown1 hg1 _;rw[HX.out,HY.out]at hown1;have HOW3:=zAA (zLp hown1 HC.out);have HO3:=zAA (HO2.out.grown hg1 (fun j hj=>.inr (zAP HOW2.out hj)));clear hown1 hg1))
   all_goals
    go_wp2_with fail
    go_roundw
    case rel=>exact⟨k+1,by omega,by go_num,HOW3,HO3⟩
    case measure=>simp[intOf];omega
  ·obtain rfl:k=n:=by omega
   have hge:¬(k:Int)<k:=by omega
   obtain⟨Av,cv,rfl,hjc,hcm⟩:=zAh how.out
   have HRD:=zAA (Rd.of_own (N:=[]) how.out (by simp)).1
   rw[List.take_of_length_le (Nat.le_of_eq HN.out.symm)]at HRD
   have hcv:=zCS (P:=prog) HRD.out 55 9 5 underlying55 underlying5 underlying9
   go_wp2_with fail
   go_ret
   exact zBj rfl ho.out
end
section
open Go.Proofs.Tryz
set_option maxHeartbeats 6400000
set_option maxRecDepth 100000
open Go.RowKit Go.Deep

theorem zKb{k:IntKind}{a b:Int}(h:a=b):Ending.returned (.int k a)=.returned (.int k b):=by rw[h]
theorem zEY(n:Nat)(h:n<16)(w:World):Calls prog 142 #[.int .u8 (n:Int)] w fun e w'=>e=.returned (.int .u8 ((hd n).toNat:Int))∧w=w':=by
 have hv:=zLS n h
 by_cases h1:n<10
 ·rw[if_pos h1]at hv
  have HV:=zAA hv
  have h1':(n:Int)<10:=by omega
  clear hv h1
  go_enter func142,ntmps142
  go_wp2_with fail
  go_ret
  exact⟨zKb (by rw[HV.out];omega),rfl⟩
 ·rw[if_neg h1]at hv
  have HV:=zAA hv
  have h1':¬(n:Int)<10:=by omega
  clear hv h1
  go_enter func142,ntmps142
  go_wp2_with fail
  go_ret
  exact⟨zKb (by rw[HV.out];omega),rfl⟩

theorem zHU(c:UInt8)(W:World):(convert 55 9 (.slice (some ⟨W.heap.size,0,none⟩) 1 1)).run prog (W.alloc (.cells #[.int .u8 (c.toNat:Int)] 5))=.ok (.string ⟨[c].toArray⟩) (W.alloc (.cells #[.int .u8 (c.toNat:Int)] 5)) :=
 zCS (l:=[c]) (N:=[]) (zDT W 5 [] [.int .u8 (c.toNat:Int)] (by simp) (by unfold maxLen;simp)) 55 9 5 underlying55 underlying5 underlying9
theorem zKc(c d:UInt8)(W:World):(convert 55 9 (.slice (some ⟨W.heap.size,0,none⟩) 2 2)).run prog (W.alloc (.cells #[.int .u8 (c.toNat:Int),.int .u8 (d.toNat:Int)] 5))=.ok (.string ⟨[c,d].toArray⟩) (W.alloc (.cells #[.int .u8 (c.toNat:Int),.int .u8 (d.toNat:Int)] 5)) :=
 zCS (l:=[c,d]) (N:=[]) (zDT W 5 [] [.int .u8 (c.toNat:Int),.int .u8 (d.toNat:Int)] (by simp) (by unfold maxLen;simp)) 55 9 5 underlying55 underlying5 underlying9

theorem zFb(c d:UInt8)(W:World):(convert 55 9 (.slice (some ⟨W.heap.size,0,none⟩) 2 2)).run prog (W.alloc (.cells #[.int .u8 (c.toNat:Int),.int .u8 (d.toNat:Int)] 5)).drew=.ok (.string ⟨[c,d].toArray⟩) (W.alloc (.cells #[.int .u8 (c.toNat:Int),.int .u8 (d.toNat:Int)] 5)).drew :=
 zCS (l:=[c,d]) (N:=[]) ((zDT W 5 [] [.int .u8 (c.toNat:Int),.int .u8 (d.toNat:Int)] (by simp) (by unfold maxLen;simp)).only ((Only.refl [] _).drew) (by simp)) 55 9 5 underlying55 underlying5 underlying9
theorem zCV(u:Nat)(h:¬u<10):Lib.decDigits u=Lib.decDigits (u / 10)++[UInt8.ofNat (48+u % 10)]:=by
 rw[Lib.decDigits,dif_neg h]
theorem zCP(u:Nat)(h:u<18446744073709551616):(Lib.decDigits u).length<=20:=by
 rw[Lib.decDigits_length]
 rcases Nat.eq_zero_or_pos u with h0|h0
 ·subst h0;rw[Lib.nDigits_small (by omega)];omega
 ·have:=Lib.numDigits_eq u h0 h
  split at this<;>omega

theorem zF8(u:Nat)(hu:u<18446744073709551616)(w:World):Calls prog 128 #[.int .u64 u] w (zBr (Lib.decDigits u) w):=by
 have HL:=zAA (zCP u hu)
 have HO:=zAA (Only.refl [] w)
 go_enter func128,ntmps128
 go_wp2_with fail
 go_loopw [0,3] (fun x s wr=>∃(v:Nat) (t:List UInt8),x=.int .u64 v∧v<18446744073709551616∧s=.string ⟨t.toArray⟩∧t.length<=20∧Hid (Lib.decDigits u=Lib.decDigits v++t)∧Hid (Only [] w wr)) (fun x _ _=>(intOf x).toNat)
 case atStart=>exact⟨u,[],rfl,hu,rfl,by simp,zAA (by simp),HO⟩
 case round =>
  obtain⟨v,t,rfl,hv,rfl,htl,hd,ho⟩:=hrel
  clear hu
  have hm10:v % 10<10:=Nat.mod_lt _ (by omega)
  have hb:(UInt8.ofNat (48+v % 10)).toNat=48+v % 10:=by rw[UInt8.toNat_ofNat'];omega
  by_cases h9:9<v
  ·have h9':(9:Int)<v:=by omega
   have HS:=zAA (zCV v (by omega))
   have hcv:=fun W=>zHU (UInt8.ofNat (48+v % 10)) W
   have hlen:(UInt8.ofNat (48+v % 10)::t).length<=20:=by
    have h1:=HL.out
    rw[hd.out,List.length_append,HS.out,List.length_append]at h1
    simp at h1 ⊢
    omega
   rw[hb,show((48+v % 10:Nat):Int)=48+(v:Int) % 10 by omega]at hcv
   generalize UInt8.ofNat (48+v % 10)=c at *
   have hadd:∀W:World,(Op.stringOp .add ⟨[c].toArray⟩ ⟨t.toArray⟩).run prog W=.ok (.string ⟨([c]++t).toArray⟩) W:=fun W=>run_string_add_lists W _ _ (by simp) (by omega)
   have hx0:0<=(v:Int) % 10:=by omega
   have hx9:(v:Int) % 10<=9:=by omega
   clear hb hm10
   go_wp2_with fail
   go_roundw
   case rel=>exact⟨v / 10,c::t,(by rw[show((v / 10:Nat):Int)=(v:Int) / 10 by omega]),by omega,rfl,hlen,zAA (by rw[hd.out,HS.out,List.append_assoc];rfl),ho.out.alloc _⟩
   case measure=>simp[intOf];omega
  ·have h9':¬(9:Int)<v:=by omega
   have hmod:v % 10=v:=by omega
   rw[hmod]at hb
   have hcv:=fun W=>zHU (UInt8.ofNat (48+v)) W
   have HV:=zAA (show Lib.decDigits u=UInt8.ofNat (48+v)::t by rw[hd.out,Lib.decDigits,dif_pos (by omega)];rfl)
   rw[hb,show((48+v:Nat):Int)=48+(v:Int)by omega]at hcv
   generalize UInt8.ofNat (48+v)=c at *
   have hadd:∀W:World,(Op.stringOp .add ⟨[c].toArray⟩ ⟨t.toArray⟩).run prog W=.ok (.string ⟨([c]++t).toArray⟩) W:=fun W=>run_string_add_lists W _ _ (by simp) (by omega)
   clear hb hm10 hmod
   go_wp2_with fail
   go_ret
   exact zBj HV.out (ho.out.alloc _)

theorem zKd(l:List UInt8)(k:Nat)(c:UInt8)(h:l[k]?=some c):zCs (l.take (k+1))=zCs (l.take k)++[hd (c.toNat / 16),hd (c.toNat % 16)]:=by
 rw[zEX l k c h,zDQ];rfl

theorem zLr(w:World)(N:List Nat)(v:Value)(l:List UInt8)(hv:Rd w N v (zBR .u8 (zBo l)))(hl:l.length<=1000000) :
  Calls prog 129 #[v] w (zBr (zCs l) w):=by
 obtain⟨A,cap,rfl,hcap,hmx⟩:=hv.formb
 have HV:=zAA hv
 obtain⟨n,hn⟩:∃n,n=l.length:=⟨_,rfl⟩
 have HN:=zAA hn
 rw[<-hn]at hcap HV hl ⊢
 clear hv hn
 have HO:=zAA (Only.refl [] w)
 go_enter func129,ntmps129
 go_wp2_with fail
 go_loopw [3,4] (fun s i wr=>∃(k:Nat) (t:List UInt8),k<=n∧i=.int .i64 k∧s=.string ⟨t.toArray⟩∧t.length<=2*k∧Hid (zCs (l.take k)=t)∧Hid (Only [] w wr)) (fun _ i _=>n-(intOf i).toNat)
 case atStart=>exact⟨0,[],Nat.zero_le _,rfl,rfl,by simp,zAA rfl,HO⟩
 case round =>
  obtain⟨k,t,hk,rfl,rfl,htl,ht,ho⟩:=hrel
  by_cases hlt:k<n
  ·have hlt':(k:Int)<n:=by omega
   have hkl:k<l.length:=by rw[<-HN.out];exact hlt
   obtain⟨c,hc⟩:∃c,l[k]?=some c:=⟨l[k],List.getElem?_eq_getElem hkl⟩
   have HT:=zAA (zKd l k c hc)
   obtain⟨g,o,rfl,_,hg,hcell⟩:=HV.out.at_.2.2.2 k (.int .u8 (c.toNat:Int)) (zDU (zFI hc))
   have HCE:=zAA (show ∀W,Only [] w W->W.cell? ⟨g,o+k,none⟩=some (.int .u8 (c.toNat:Int))from fun W h=>(zAX h hg (by simp)).trans hcell)
   have c1:=HCE.out _ ho.out
   have hc256:=c.toNat_lt
   have hcI:(c.toNat:Int)<256:=by omega
   have HA:=zAA (fun W=>zEY (c.toNat / 16) (by omega) W)
   have HB:=zAA (fun W=>zEY (c.toNat % 16) (by omega) W)
   rw[show((c.toNat / 16:Nat):Int)=(c.toNat:Int) / 16 by omega]at HA
   rw[show((c.toNat % 16:Nat):Int)=(c.toNat:Int) % 16 by omega]at HB
   have hq:IntKind.u8.wrap ((c.toNat:Int) / 16)=(c.toNat:Int) / 16:=by rw[IntKind.wrap_u8];omega
   have hm16:((c.toNat:Int)).tmod 16=(c.toNat:Int) % 16:=Int.tmod_eq_emod_of_nonneg (by omega)
   have hcv:=fun W=>zKc (hd (c.toNat / 16)) (hd (c.toNat % 16)) W
   have hcv2:=fun W=>zFb (hd (c.toNat / 16)) (hd (c.toNat % 16)) W
   generalize hd (c.toNat / 16)=x at *
   generalize hd (c.toNat % 16)=y at *
   have hadd:∀W:World,(Op.stringOp .add ⟨t.toArray⟩ ⟨[x,y].toArray⟩).run prog W=.ok (.string ⟨(t++[x,y]).toArray⟩) W:=fun W=>run_string_add_lists W _ _ (by omega) (by simp)
   have HO2:=zAA ((ho.out.alloc (.cells #[.int .u8 (x.toNat:Int),.int .u8 (y.toNat:Int)] 5)).drew)
   have c2:=HCE.out _ HO2.out
   clear hc hcell
   go_upto_region 5 with (fail)
   go_region_with (first
    | (go_at_call 142;(with_reducible refine(HA.out _).mono ?_);rintro e w' ⟨rfl,rfl⟩)
    | (go_at_call 142;(with_reducible refine(HB.out _).mono ?_);rintro e w' ⟨rfl,rfl⟩))
   all_goals
    go_wp2_with fail
    go_roundw
    case rel=>exact⟨k+1,t++[x,y],by omega,(by go_num),rfl,(by simp;omega),zAA (by rw[HT.out,ht.out]),zAA (by first|exact HO2.out|exact HO2.out.drew)⟩
    case measure=>simp[intOf];omega
  ·obtain rfl:k=n:=by omega
   have hge:¬(k:Int)<k:=by omega
   have HV2:=zAA (show zCs l=t by rw[<-ht.out,List.take_of_length_le (Nat.le_of_eq HN.out.symm)])
   go_wp2_with fail
   go_ret
   exact zBj HV2.out ho.out
end
section
open Go.Proofs.Tryz
set_option maxHeartbeats 6400000
set_option maxRecDepth 100000
open Go.RowKit Go.Deep

def zCx(r:Nat×Nat)(w:World)(e:Ending)(w':World):Prop:=e=.returned (.tuple #[.int .u64 r.1,.int .i64 r.2])∧w=w'
theorem zI9{a b:Nat}{r:Nat×Nat}{w:World}(h:r=(a,b)):zCx r w (.returned (.tuple #[.int .u64 a,.int .i64 b])) w:=by
 subst h;exact⟨rfl,rfl⟩

theorem zFc(w:World)(s:ByteArray)(hs:s.size<=1000000):Calls prog 126 #[.string s] w (zCx (zCT s.data.toList) w):=by
 by_cases h0:s.size=0
 ·have HR:=zAA (zE0 s h0)
  have hb:((s.size:Int)==0)=true:=by rw[beq_iff_eq];omega
  have hb1:(s.size==0)=true:=by simpa using h0
  clear h0
  go_enter func126,ntmps126
  go_wp2_with fail
  go_ret2
  exact zI9 HR.out
 have hpos:0<s.size:=by omega
 have hb:((s.size:Int)==0)=false:=by rw[beq_eq_false_iff_ne];omega
 have hb1:(s.size==0)=false:=by simpa using h0
 by_cases hlead:s[0].toNat=48∧1<s.size
 ·have HR:=zAA (zFv s hlead.2 hlead.1)
  obtain⟨h1,h2⟩:=hlead
  have h2':(1:Int)<s.size:=by omega
  have h1':((s[0].toNat:Int)==48)=true:=by rw[beq_iff_eq];omega
  clear h0 h1
  go_enter func126,ntmps126
  go_wp2_with fail
  go_ret2
  exact zI9 HR.out
 have HLE:=zAA hlead
 have hcs:(¬(1:Int)<s.size)∨((1:Int)<s.size∧((s[0].toNat:Int)==48)=false):=by
  by_cases h2:1<s.size
  ·refine .inr ⟨by omega,?_⟩
   rw[beq_eq_false_iff_ne]
   intro h
   exact hlead ⟨by omega,h2⟩
  ·exact .inl (by omega)
 clear h0 hlead
 rcases hcs with h2|⟨h2,h1⟩
 all_goals
  go_enter func126,ntmps126
  go_wp2_with fail
  go_loop [4] (fun i=>∃k:Nat,k<=s.size∧i=.int .i64 k∧Hid (zMZ s k)) (fun i=>s.size-(intOf i).toNat)
  case atStart=>exact⟨0,Nat.zero_le _,rfl,zAA (fun i _ h=>by omega)⟩
  case round =>
   obtain⟨k,hk,rfl,hdg⟩:=hrel
   by_cases hlt:k<s.size
   ·have hltI:(k:Int)<s.size:=by omega
    cases hd:zCf s[k]with
    | true =>
     have hc1:(48:Int)<=s[k].toNat:=by simp[zCf]at hd;omega
     have hc2:(s[k].toNat:Int)<=57:=by simp[zCf]at hd;omega
     have HS:=zAA (zFw hdg.out hlt hd)
     clear hd
     go_wp2_with fail
     go_round
     case rel=>exact⟨k+1,by omega,by go_num,HS⟩
     case measure=>simp[intOf];omega
    | false =>
     have HR:=zAA (zHJ s k hlt hd)
     have hb:(s[k].toNat:Int)<48∨(57:Int)<s[k].toNat∧¬(s[k].toNat:Int)<48:=by simp[zCf]at hd;omega
     clear hd
     rcases hb with hb|⟨hb,hb2⟩
     all_goals
      go_wp2_with fail
      go_ret2
      exact zI9 HR.out
   ·obtain rfl:k=s.size:=by omega
    have hge:¬(s.size:Int)<s.size:=by omega
    have HALL:=zAA hdg.out
    have HGO:=zAA (zGg s hpos (zFN s.data.toList fun i hi=>hdg.out i (by simpa using hi) (by simpa using hi)) HLE.out)
    clear hdg
    go_wp2_with fail
    go_loop [5,6] (fun x i=>∃u k:Nat,k<=s.size∧x=.int .u64 u∧u<18446744073709551616∧i=.int .i64 k∧Hid (zCM (s.data.toList.drop k) u=zCM s.data.toList 0)) (fun _ i=>s.size-(intOf i).toNat)
    case atStart=>exact⟨0,0,Nat.zero_le _,rfl,by omega,rfl,zAA rfl⟩
    case round =>
     obtain⟨u,k,hk,rfl,hu,rfl,hacc⟩:=hrel
     by_cases hlt:k<s.size
     ·have hltI:(k:Int)<s.size:=by omega
      have HDR:=zAA (zBp s k hlt)
      have HC:=HALL.out k hlt hlt
      have hc1:48<=s[k].toNat:=by simp[zCf]at HC;omega
      have hc2:s[k].toNat<=57:=by simp[zCf]at HC;omega
      have hc1':(48:Int)<=s[k].toNat:=by omega
      have hc2':(s[k].toNat:Int)<=57:=by omega
      clear HC
      by_cases hov:1844674407370955161<u∨(u=1844674407370955161∧5<s[k].toNat-48)
      ·have HR:=zAA (show zCT s.data.toList=(0,5)from by rw[HGO.out,<-hacc.out,HDR.out,zCM,if_pos hov])
       have ht:(18446744073709551615-((s[k].toNat:Int)-48)) / 10<(u:Int):=by omega
       clear hov
       go_wp2_with fail
       go_ret2
       exact zI9 HR.out
      ·have HN:=zAA (show zCM (s.data.toList.drop (k+1)) (u*10+(s[k].toNat-48))=zCM s.data.toList 0 from by rw[<-hacc.out,HDR.out,zCM,if_neg hov])
       have ht:¬(18446744073709551615-((s[k].toNat:Int)-48)) / 10<(u:Int):=by omega
       have hlim:u*10+(s[k].toNat-48)<18446744073709551616:=by omega
       clear hov
       go_wp2_with fail
       go_round
       case rel=>exact⟨u*10+(s[k].toNat-48),k+1,by omega,congrArg (Value.int .u64) (by omega),hlim,(by go_num),HN⟩
       case measure=>simp[intOf];omega
     ·obtain rfl:k=s.size:=by omega
      have hge:¬(s.size:Int)<s.size:=by omega
      have HR:=zAA (show zCT s.data.toList=(u,0)from by rw[HGO.out,<-hacc.out,show List.drop s.size s.data.toList=[]from List.drop_of_length_le (Nat.le_of_eq rfl)];rfl)
      go_wp2_with fail
      go_ret2
      exact zI9 HR.out
end
section
open Go.Proofs.Tryz
set_option maxHeartbeats 3200000
open Go.RowKit Go.Deep

def zKe(c:UInt8):Nat:=if zEv c=true then nib c else 16
theorem zKf(n:Nat)(h:n<16)(c:UInt8):(hd n).toNat=c.toNat↔(zEv c=true∧nib c=n):=by
 rw[zLS n h]
 have hc:=c.toNat_lt
 unfold zEv nib zCt
 by_cases h1:n<10
 ·rw[if_pos h1]
  constructor
  ·intro e
   rw[if_pos (by omega)]
   exact⟨by simp;omega,by omega⟩
  ·rintro⟨a,b⟩
   split at b
   ·omega
   ·split at b<;>rename_i h2 h3
    ·omega
    ·simp only[h2,h3,if_false]at a
     simp at a
 ·rw[if_neg h1]
  constructor
  ·intro e
   rw[if_neg (by omega),if_pos (by omega)]
   exact⟨by simp;omega,by omega⟩
  ·rintro⟨a,b⟩
   split at b
   ·omega
   ·split at b<;>rename_i h2 h3
    ·omega
    ·omega

theorem zEZ(c:UInt8)(w:World):Calls prog 165 #[.int .u8 (c.toNat:Int)] w fun e w'=>e=.returned (.int .u8 (zKe c:Nat))∧w=w':=by
 go_enter func165,ntmps165
 go_wp2_with fail
 go_loop [3] (fun i=>∃k:Nat,k<=16∧i=.int .u8 k∧Hid (∀m,m<k->(hd m).toNat≠c.toNat)) (fun i=>16-(intOf i).toNat)
 case atStart=>exact⟨0,by omega,rfl,zAA (fun m h=>by omega)⟩
 case round =>
  obtain⟨k,hk,rfl,hne⟩:=hrel
  by_cases hlt:k<16
  ·have hlt':(k:Int)<16:=by omega
   have HD:=zAA (fun W=>zEY k hlt W)
   by_cases he:(hd k).toNat=c.toNat
   ·have HV:=zAA (show zKe c=k by
     have:=(zKf k hlt c).1 he
     unfold zKe;rw[if_pos this.1];exact this.2)
    have heb:(((hd k).toNat:Int)==(c.toNat:Int))=true:=by rw[beq_iff_eq];omega
    have heb2:((hd k).toNat==c.toNat)=true:=by simpa using he
    clear he
    generalize (hd k).toNat=y at *
    go_wp2_with (go_at_call 142;refine(HD.out _).mono ?_;rintro e w' ⟨rfl,rfl⟩)
    go_ret
    exact⟨zKb (by rw[HV.out]),rfl⟩
   ·have heb:(((hd k).toNat:Int)==(c.toNat:Int))=false:=by rw[beq_eq_false_iff_ne];omega
    have heb2:((hd k).toNat==c.toNat)=false:=by simpa using he
    have HN:=zAA (show ∀m,m<k+1->(hd m).toNat≠c.toNat from fun m hm=>by
     by_cases e:m=k
     ·subst e;exact he
     ·exact hne.out m (by omega))
    clear he
    generalize (hd k).toNat=y at heb heb2 HD
    go_wp2_with (go_at_call 142;refine(HD.out _).mono ?_;rintro e w' ⟨rfl,rfl⟩)
    go_round
    case rel=>exact⟨k+1,by omega,by go_num,HN⟩
    case measure=>simp[intOf];omega
  ·obtain rfl:k=16:=by omega
   have HV:=zAA (show zKe c=16 by
    unfold zKe
    split
    ·rename_i hx
     exact absurd ((zKf (nib c) (zCo c) c).2 ⟨hx,rfl⟩) (hne.out _ (zCo c))
    ·rfl)
   go_wp2_with fail
   go_ret
   exact⟨zKb (by rw[HV.out];rfl),rfl⟩
end
end Go.Proofs.YtfipdjlalfpbnaaGreatDoor
