/-
  Walks and plain words (texts Pe0, Pe1, Hs, Tk, Pf0, Wh). No condition beyond those that each theorem states.
-/
import Derived.Deep.MidRow
import Derived.OrdersHeld
import Derived.Test.YtfipdjlalfpbnaaGreatDoorA17
namespace Go.Proofs.YtfipdjlalfpbnaaGreatDoor
section
open Go.Proofs.Tryz
set_option maxHeartbeats 12800000
set_option maxRecDepth 100000
open Go.RowKit Go.Deep

theorem zA4(t:Int)(w:World):Calls prog 27 #[.int .i64 t] w fun e w'=>e=.returned (.bool (zAc t))∧w=w':=by
 go_enter func27,ntmps27
 go_wp2
 all_goals
  go_ret
  exact⟨by first|(simp_all[zAc];done)|(simp_all[zAc];omega),rfl⟩
theorem zDG(w:World)(s1 s2:ByteArray)(lo re:Nat)(beg:Bool)(made:Int)(n:Nat)(A:Option Addr)(ln cap:Nat)(now:Int)(h1:0<=made)(h2:made<=1125899906842624)(h3:0<=now)(h4:now<=1125899906842624):Calls prog 77 #[.agg #[.string s1,.string s2,.int .u32 (lo:Nat),.int .u32 (re:Nat),.bool beg,.int .i64 made,.int .u64 (n:Nat),.slice A ln cap],.int .i64 now] w (zAn (decide (180000<=zBn made now)) w):=by
 have HB:=zAA (Blk.new w 53 #[.string s1,.string s2,.int .u32 (lo:Nat),.int .u32 (re:Nat),.bool beg,.int .i64 made,.int .u64 (n:Nat),.slice A ln cap])
 have HO:=zAA ((Only.refl [] w).alloc (.cells #[.string s1,.string s2,.int .u32 (lo:Nat),.int .u32 (re:Nat),.bool beg,.int .i64 made,.int .u64 (n:Nat),.slice A ln cap] 53))
 have HV:=zAA (show decide (180000<=zBn made now)=decide (180000<=now-made)by
  unfold zBn
  split
  ·rfl
  ·rw[decide_eq_false (by omega),decide_eq_false (by omega)])
 have hwr:IntKind.i64.wrap (now-made)=now-made:=by rw[IntKind.wrap_i64];omega
 have c0:=HB.out.cell 0;have c1:=HB.out.cell 1;have c2:=HB.out.cell 2;have c3:=HB.out.cell 3;have c4:=HB.out.cell 4;have c5:=HB.out.cell 5;have c6:=HB.out.cell 6;simp at c0 c1 c2 c3 c4 c5 c6
 clear h1 h2 h3 h4
 go_enter func77,ntmps77
 go_wp2_with fail
 go_ret
 exact zBz HV.out HO.out
theorem zDH(w:World)(s1 s2:ByteArray)(lo re:Nat)(beg:Bool)(made:Int)(n:Nat)(A:Option Addr)(ln cap:Nat)(now:Int)(h1:0<=made)(h2:made<=1125899906842624):Calls prog 72 #[.agg #[.string s1,.string s2,.int .u32 (lo:Nat),.int .u32 (re:Nat),.bool beg,.int .i64 made,.int .u64 (n:Nat),.slice A ln cap],.int .i64 now] w (zAn (zAc now&&(!decide (180000<=zBn made now)&&decide (n<18446744073709543423))) w):=by
 have HT:=zAA (fun W=>zA4 now W)
 have HOL:=zAA (fun(ht:zAc now=true) W=>zDG W s1 s2 lo re beg made n A ln cap now h1 h2 ((zAT now).1 ht).1 ((zAT now).1 ht).2)
 unfold zAn at HOL
 have HB:=zAA (Blk.new w 53 #[.string s1,.string s2,.int .u32 (lo:Nat),.int .u32 (re:Nat),.bool beg,.int .i64 made,.int .u64 (n:Nat),.slice A ln cap])
 have HO:=zAA ((Only.refl [] w).alloc (.cells #[.string s1,.string s2,.int .u32 (lo:Nat),.int .u32 (re:Nat),.bool beg,.int .i64 made,.int .u64 (n:Nat),.slice A ln cap] 53))
 have c7:=HB.out.cell 7
 simp at c7
 have c0:=HB.out.cell 0;have c1:=HB.out.cell 1;have c2:=HB.out.cell 2;have c3:=HB.out.cell 3;have c4:=HB.out.cell 4;have c5:=HB.out.cell 5;have c6:=HB.out.cell 6;simp at c0 c1 c2 c3 c4 c5 c6
 clear h1 h2
 cases ht:zAc now with
 | false =>
  rw[ht]at HT
  clear ht
  go_enter func72,ntmps72
  go_wp2_with (go_at_call 27;refine(HT.out _).mono ?_;rintro e wz ⟨rfl,rfl⟩)
  go_ret
  exact zBz rfl HO.out
 | true =>
  rw[ht]at HT
  replace HOL:=zAA (HOL.out ht)
  clear ht
  cases ho:decide (180000<=zBn made now)with
  | true =>
   rw[ho]at HOL
   clear ho
   go_enter func72,ntmps72
   go_wp2_with (first
    | (go_at_call 27;refine(HT.out _).mono ?_;rintro e wz ⟨rfl,rfl⟩)
    | (go_at_call 77;refine(HOL.out _).mono ?_;rintro e w2 ⟨rfl,ho⟩;replace HB:=zAA (HB.out.only ho (by simp));replace HO:=zAA (HO.out.trans ho);clear ho c0 c1 c2 c3 c4 c5 c6 c7;have c0:=HB.out.cell 0;have c1:=HB.out.cell 1;have c2:=HB.out.cell 2;have c3:=HB.out.cell 3;have c4:=HB.out.cell 4;have c5:=HB.out.cell 5;have c6:=HB.out.cell 6;simp at c0 c1 c2 c3 c4 c5 c6))
   go_ret
   exact zBz rfl HO.out
  | false =>
   rw[ho]at HOL
   clear ho
   by_cases hk:n<18446744073709543423
   ·have h3:decide ((n:Int)<18446744073709543423)=true:=by rw[decide_eq_true_iff];omega
    have HK:=zAA hk
    clear hk
    go_enter func72,ntmps72
    go_wp2_with (first
     | (go_at_call 27;refine(HT.out _).mono ?_;rintro e wz ⟨rfl,rfl⟩)
     | (go_at_call 77;refine(HOL.out _).mono ?_;rintro e w2 ⟨rfl,ho⟩;replace HB:=zAA (HB.out.only ho (by simp));replace HO:=zAA (HO.out.trans ho);clear ho c0 c1 c2 c3 c4 c5 c6 c7;have c0:=HB.out.cell 0;have c1:=HB.out.cell 1;have c2:=HB.out.cell 2;have c3:=HB.out.cell 3;have c4:=HB.out.cell 4;have c5:=HB.out.cell 5;have c6:=HB.out.cell 6;simp at c0 c1 c2 c3 c4 c5 c6))
    go_ret
    exact zBz (by rw[decide_eq_true HK.out];rfl) HO.out
   ·have h3:decide ((n:Int)<18446744073709543423)=false:=by rw[decide_eq_false_iff_not];omega
    have HK:=zAA hk
    clear hk
    go_enter func72,ntmps72
    go_wp2_with (first
     | (go_at_call 27;refine(HT.out _).mono ?_;rintro e wz ⟨rfl,rfl⟩)
     | (go_at_call 77;refine(HOL.out _).mono ?_;rintro e w2 ⟨rfl,ho⟩;replace HB:=zAA (HB.out.only ho (by simp));replace HO:=zAA (HO.out.trans ho);clear ho c0 c1 c2 c3 c4 c5 c6 c7;have c0:=HB.out.cell 0;have c1:=HB.out.cell 1;have c2:=HB.out.cell 2;have c3:=HB.out.cell 3;have c4:=HB.out.cell 4;have c5:=HB.out.cell 5;have c6:=HB.out.cell 6;simp at c0 c1 c2 c3 c4 c5 c6))
    go_ret
    exact zBz (by rw[decide_eq_false HK.out];rfl) HO.out
end
section
open Go.Proofs.Tryz
set_option maxHeartbeats 12800000
set_option maxRecDepth 100000
open Go.RowKit Go.Deep

theorem zIP(w:World)(s1 s2:ByteArray)(lo re:Nat)(beg:Bool)(made:Int)(n:Nat)(A:Option Addr)(ln cap:Nat)(now:Int)(h1:0<=made)(h2:made<=1125899906842624)(after:Int):Calls prog 87 #[.agg #[.string s1,.string s2,.int .u32 (lo:Nat),.int .u32 (re:Nat),.bool beg,.int .i64 made,.int .u64 (n:Nat),.slice A ln cap],.int .i64 now,.int .i64 after] w (zAn (zAc now&&(beg&&decide (after<=zBn made now))) w):=by
 have HT:=zAA (fun W=>zA4 now W)
 have HB:=zAA (Blk.new w 53 #[.string s1,.string s2,.int .u32 (lo:Nat),.int .u32 (re:Nat),.bool beg,.int .i64 made,.int .u64 (n:Nat),.slice A ln cap])
 have HO:=zAA ((Only.refl [] w).alloc (.cells #[.string s1,.string s2,.int .u32 (lo:Nat),.int .u32 (re:Nat),.bool beg,.int .i64 made,.int .u64 (n:Nat),.slice A ln cap] 53))
 have c0:=HB.out.cell 0;have c1:=HB.out.cell 1;have c2:=HB.out.cell 2;have c3:=HB.out.cell 3;have c4:=HB.out.cell 4;have c5:=HB.out.cell 5;have c6:=HB.out.cell 6;simp at c0 c1 c2 c3 c4 c5 c6
 cases ht:zAc now with
 | false =>
  rw[ht]at HT
  have HV:=zAA (show zBn made now=zBn made now from rfl)
  clear ht h1 h2
  go_enter func87,ntmps87
  go_wp2_with (go_at_call 27;refine(HT.out _).mono ?_;rintro e wz ⟨rfl,rfl⟩)
  go_ret
  exact zBz (by first|(rw[HV.out];simp;done)|rfl|simp) HO.out
 | true =>
  rw[ht]at HT
  have hb:=(zAT now).1 ht
  have hwr:IntKind.i64.wrap (now-made)=now-made:=by rw[IntKind.wrap_i64];omega
  by_cases hm:made<=now
  ·have HV:=zAA (show zBn made now=now-made by unfold zBn;rw[if_pos hm])
   have hz:decide (now-made<0)=false:=by rw[decide_eq_false_iff_not];omega
   clear ht h1 h2 hb hm
   cases beg with
   | false =>
    go_enter func87,ntmps87
    go_wp2_with (go_at_call 27;refine(HT.out _).mono ?_;rintro e wz ⟨rfl,rfl⟩)
    go_ret
    exact zBz (by first|(rw[HV.out];simp;done)|rfl|simp) HO.out
   | true =>
    go_enter func87,ntmps87
    go_wp2_with (go_at_call 27;refine(HT.out _).mono ?_;rintro e wz ⟨rfl,rfl⟩)
    go_ret
    exact zBz (by first|(rw[HV.out];simp;done)|rfl|simp) HO.out
  ·have HV:=zAA (show zBn made now=0 by unfold zBn;rw[if_neg hm])
   have hz:decide (now-made<0)=true:=by rw[decide_eq_true_iff];omega
   clear ht h1 h2 hb hm
   cases beg with
   | false =>
    go_enter func87,ntmps87
    go_wp2_with (go_at_call 27;refine(HT.out _).mono ?_;rintro e wz ⟨rfl,rfl⟩)
    go_ret
    exact zBz (by first|(rw[HV.out];simp;done)|rfl|simp) HO.out
   | true =>
    go_enter func87,ntmps87
    go_wp2_with (go_at_call 27;refine(HT.out _).mono ?_;rintro e wz ⟨rfl,rfl⟩)
    go_ret
    exact zBz (by first|(rw[HV.out];simp;done)|rfl|simp) HO.out
end
section
open Go.RowKit Go.Deep

theorem zAM{w:World}{g:Nat}{t:TypeId}{cs:Array Value}(h:Blk w g t cs)(n:Nat)(hn:n=cs.size):w.there g 0 n:=by
 subst hn
 intro j hj
 rw[Nat.zero_add,h.cell]
 exact⟨by simp[hj],h.frozen j⟩
theorem zAJ{w:World}{g:Nat}{t:TypeId}{cs:Array Value}(h:Blk w g t cs)(l:List Value)(hl:l.length=cs.size):Blk (w.setCells g 0 l) g t l.toArray:=h.setCells_whole hl
theorem zAL{S:List Nat}{a w:World}{g:Nat}(h:Only S a w)(hg:a.heap.size<=g)(l:List Value):Only S a (w.setCells g 0 l):=Only.setCells (.inr hg) 0 l h
theorem zCQ{w:World}{g p:Nat}{t:TypeId}{cs:Array Value}(h:Blk w g t cs)(hp:p≠g)(l:List Value):Blk (w.setCells p 0 l) g t cs:=Blk.setCells_far hp 0 l h
end
section
open Go.RowKit Go.Deep
theorem zsa{α:Type}{xs:List α}{i:Nat}(h:i<xs.toArray.size):xs.toArray[i]=xs[i]'(by simpa using h):=List.getElem_toArray h
theorem zsb{α:Type}(a:α)(l2:List α)(i:Nat)(h:i+1<(a::l2).length):(a::l2)[i+1]=l2[i]'(by simpa using h):=List.getElem_cons_succ a l2 i h
theorem zsc{α:Type}(a:α)(l2:List α)(h:0<(a::l2).length):(a::l2)[0]=a:=List.getElem_cons_zero a l2 h
theorem zsd{α:Type}(l:List α)(i:Nat)(a:α):l.toArray.setIfInBounds i a=(l.set i a).toArray:=List.setIfInBounds_toArray l i a
theorem zse{α:Type}(a b:α)(l:List α):(a::l).set 0 b=b::l:=List.set_cons_zero
theorem zsf{α:Type}(a b:α)(l:List α)(n:Nat):(a::l).set (n+1) b=a::l.set n b:=List.set_cons_succ
section
variable {P:Program} {ops:Array Oper} {Q:Exit->Act->World->Prop} {md:Region.Mode} {S:World->Prop}
theorem tk(i:Nat){oi:Oper}{v:Value}{fuel:Nat}{listed l2:Array Bool}{a a2:Act}{w:World}(h:wpAnyH P md ops Q S fuel l2 a2 w)(hi:ops[i]?=some oi:=by rfl)
  (hs:Region.noSelect ops=true:=by kernel_rfl) (hf:Region.free md ops listed i=true:=by kernel_rfl) (hr:(Region.ready md ops listed).contains i=true:=by kernel_rfl)
  (hQ:∀c a w,Q (.panic c) (a.put oi.dst v) w->Q (.panic c) a w:=by exact fun _ _ _ h=>h) (hw:Region.wanted oi (yielded ops a.tmps)=true:=by rfl)
  (hy:∀w,S w->(execOp a.eval oi).run P w=.ok (.value v) w:=by(intro w hSw;(try dsimp only at hSw);go_simp;try with_reducible rfl)) (hS:S w:=by assumption)
  (hl:listed.setIfInBounds i true=l2:=by(try simp only[List.setIfInBounds_toArray,List.set_cons_zero,List.set_cons_succ])<;>rfl)
  (ha:a.put oi.dst v=a2:=by(try simp only[List.getElem_toArray,List.getElem_cons_succ,List.getElem_cons_zero,Act.put,List.setIfInBounds_toArray,List.set_cons_zero,List.set_cons_succ])<;>rfl) :
  wpAnyH P md ops Q S (fuel+1) listed a w:=by
 subst hl ha
 exact wpAnyH_take hi hs hf hr hQ (.inl ⟨hw,hy⟩) hS h
end
theorem zA1{w:World}{g:Nat}{t:TypeId}{a0 a1 a2 a3 a4 a5 a6 a7 a8 a9 a10 a11 a12:Value}(h:Blk w g t #[a0,a1,a2,a3,a4,a5,a6,a7,a8,a9,a10,a11,a12]):w.cell? ⟨g,0,none⟩=some a0∧w.cell? ⟨g,1,none⟩=some a1∧w.cell? ⟨g,2,none⟩=some a2∧w.cell? ⟨g,3,none⟩=some a3∧w.cell? ⟨g,4,none⟩=some a4∧w.cell? ⟨g,5,none⟩=some a5∧w.cell? ⟨g,6,none⟩=some a6∧w.cell? ⟨g,7,none⟩=some a7∧w.cell? ⟨g,8,none⟩=some a8∧w.cell? ⟨g,9,none⟩=some a9∧w.cell? ⟨g,10,none⟩=some a10∧w.cell? ⟨g,11,none⟩=some a11∧w.cell? ⟨g,12,none⟩=some a12 :=
 ⟨h.cell 0,h.cell 1,h.cell 2,h.cell 3,h.cell 4,h.cell 5,h.cell 6,h.cell 7,h.cell 8,h.cell 9,h.cell 10,h.cell 11,h.cell 12⟩
theorem hon{w w':World}{g:Nat}{t:TypeId}{cs:Array Value}(h:Hid (Blk w g t cs))(ho:Only [] w w'):Hid (Blk w' g t cs):=zAA (h.out.only ho (by simp))
end
section
open Go.Proofs.Tryz
set_option maxHeartbeats 12800000
set_option maxRecDepth 100000
open Go.RowKit Go.Deep

theorem zL8(w:World)(s1 s2:ByteArray)(lo re:Int)(beg:Bool)(made:Int)(h1:s1.size<=maxLen)(h2:s2.size<=maxLen)(hk:zAg s1=0):Calls prog 26 #[.agg #[.string s1,.string s2],.int .u32 lo,.int .u32 re,.bool beg,.int .i64 made] w fun e w'=>e=.returned (.tuple #[.pointer none,.int .i64 3])∧Only [] w w':=by
 have HK1:=zAA (fun W=>zBi W s1 h1)
 have HK2:=zAA (fun W=>zBi W s2 h2)
 unfold zB3 at HK1 HK2
 have t1:(zAg s1==0)=true:=by simpa using hk
 clear hk
 have HB:=zAA (Blk.new w 43 #[.string s1,.string s2])
 have HO:=zAA ((Only.refl [] w).alloc (.cells #[.string s1,.string s2] 43))
 generalize zAg s1=a1 at *
 generalize zAg s2=a2 at *
 clear h1 h2
 go_enter func26,ntmps26
 go_upto_region 1 with fail
 generalize (w.alloc (.cells #[.string s1,.string s2] 43))=v0 at *
 have k0:=HB.out.cell 0;have k1:=HB.out.cell 1;simp at k0 k1
 go_wp2_with (first
  | (go_at_call 51;(with_reducible refine(HK1.out _).mono ?_);rintro e2 x1 ⟨rfl,ho⟩;replace HB:=zAA (HB.out.only ho (by simp));replace HO:=zAA (HO.out.trans ho);clear ho k0 k1;have k0:=HB.out.cell 0;have k1:=HB.out.cell 1;simp at k0 k1))
 go_ret2
 exact⟨rfl,HO.out⟩
theorem zL9(w:World)(s1 s2:ByteArray)(lo re:Int)(beg:Bool)(made:Int)(h1:s1.size<=maxLen)(h2:s2.size<=maxLen)(hk:zAg s1≠0)(hk2:zAg s2=0):Calls prog 26 #[.agg #[.string s1,.string s2],.int .u32 lo,.int .u32 re,.bool beg,.int .i64 made] w fun e w'=>e=.returned (.tuple #[.pointer none,.int .i64 3])∧Only [] w w':=by
 have HK1:=zAA (fun W=>zBi W s1 h1)
 have HK2:=zAA (fun W=>zBi W s2 h2)
 unfold zB3 at HK1 HK2
 have t1:(zAg s1==0)=false:=by simpa using hk
 have t2:(zAg s2==0)=true:=by simpa using hk2
 clear hk hk2
 have HB:=zAA (Blk.new w 43 #[.string s1,.string s2])
 have HO:=zAA ((Only.refl [] w).alloc (.cells #[.string s1,.string s2] 43))
 generalize zAg s1=a1 at *
 generalize zAg s2=a2 at *
 clear h1 h2
 go_enter func26,ntmps26
 go_upto_region 1 with fail
 generalize (w.alloc (.cells #[.string s1,.string s2] 43))=v0 at *
 have k0:=HB.out.cell 0;have k1:=HB.out.cell 1;simp at k0 k1
 go_wp2_with (first
  | (go_at_call 51;(with_reducible refine(HK1.out _).mono ?_);rintro e2 x1 ⟨rfl,ho⟩;replace HB:=zAA (HB.out.only ho (by simp));replace HO:=zAA (HO.out.trans ho);clear ho k0 k1;have k0:=HB.out.cell 0;have k1:=HB.out.cell 1;simp at k0 k1)
  | (go_at_call 51;(with_reducible refine(HK2.out _).mono ?_);rintro e2 x2 ⟨rfl,ho⟩;replace HB:=zAA (HB.out.only ho (by simp));replace HO:=zAA (HO.out.trans ho);clear ho k0 k1;have k0:=HB.out.cell 0;have k1:=HB.out.cell 1;simp at k0 k1))
 go_ret2
 exact⟨rfl,HO.out⟩
theorem zJi(w:World)(s1 s2:ByteArray)(lo re:Int)(beg:Bool)(made:Int)(h1:s1.size<=maxLen)(h2:s2.size<=maxLen)(hk:zAg s1≠0)(hk2:zAg s2≠0)(ht:zAc made=false):Calls prog 26 #[.agg #[.string s1,.string s2],.int .u32 lo,.int .u32 re,.bool beg,.int .i64 made] w fun e w'=>e=.returned (.tuple #[.pointer none,.int .i64 2])∧Only [] w w':=by
 have HK1:=zAA (fun W=>zBi W s1 h1)
 have HK2:=zAA (fun W=>zBi W s2 h2)
 unfold zB3 at HK1 HK2
 have t1:(zAg s1==0)=false:=by simpa using hk
 have t2:(zAg s2==0)=false:=by simpa using hk2
 have HTM:=zAA ht
 clear hk hk2 ht
 have HB:=zAA (Blk.new w 43 #[.string s1,.string s2])
 have HO:=zAA ((Only.refl [] w).alloc (.cells #[.string s1,.string s2] 43))
 generalize zAg s1=a1 at *
 generalize zAg s2=a2 at *
 clear h1 h2
 go_enter func26,ntmps26
 go_upto_region 1 with fail
 generalize (w.alloc (.cells #[.string s1,.string s2] 43))=v0 at *
 have k0:=HB.out.cell 0;have k1:=HB.out.cell 1;simp at k0 k1
 go_wp2_with (first
  | (go_at_call 51;(with_reducible refine(HK1.out _).mono ?_);rintro e2 x1 ⟨rfl,ho⟩;replace HB:=zAA (HB.out.only ho (by simp));replace HO:=zAA (HO.out.trans ho);clear ho k0 k1;have k0:=HB.out.cell 0;have k1:=HB.out.cell 1;simp at k0 k1)
  | (go_at_call 51;(with_reducible refine(HK2.out _).mono ?_);rintro e2 x2 ⟨rfl,ho⟩;replace HB:=zAA (HB.out.only ho (by simp));replace HO:=zAA (HO.out.trans ho);clear ho k0 k1;have k0:=HB.out.cell 0;have k1:=HB.out.cell 1;simp at k0 k1)
  | (go_at_call 69;refine(zAx _ _).mono ?_;rintro e2 x3 ⟨rfl,rfl⟩;rw[HTM.out]))
 go_ret2
 exact⟨rfl,HO.out⟩
theorem zBt{w w':World}(h:w=w'):Only [] w w':=h▸Only.refl [] w
theorem zAm(w:World)(g c:Nat)(s1 s2:ByteArray)(lo re:Nat)(beg:Bool)(made:Int)(n:Nat)(A:Option Addr)(ln cap:Nat)(now:Int)(hp:PairIs w g c s1 s2 lo re beg made n)(h1:0<=made)(h2:made<=1125899906842624):Calls prog 35 #[.pointer (some ⟨g,0,none⟩),.agg #[.string s1,.string s2,.int .u32 (lo:Nat),.int .u32 (re:Nat),.bool beg,.int .i64 made,.int .u64 (n:Nat),.slice A ln cap],.int .i64 now] w (zAn true w):=by
 have hm:=zAA (And.intro h1 h2)
 obtain⟨fv,hfv⟩:∃b,(zAc now&&(!decide (180000<=zBn made now)&&decide (n<18446744073709543423)))=b:=⟨_,rfl⟩
 obtain⟨tv,htv⟩:∃b,(zAc now&&(beg&&decide ((120000:Int)<=zBn made now)))=b:=⟨_,rfl⟩
 have HFV:=zAA hfv
 have HTV:=zAA htv
 clear h1 h2 hfv htv
 have q2:((lo:Int)==(lo:Int))=true:=beq_self_eq_true _
 have q3:((re:Int)==(re:Int))=true:=beq_self_eq_true _
 have q4:(beg==beg)=true:=beq_self_eq_true _
 have q5:(made==made)=true:=beq_self_eq_true _
 have q6:((n:Int)==(n:Int))=true:=beq_self_eq_true _
 have q7:(fv==fv)=true:=beq_self_eq_true _
 have q8:(tv==tv)=true:=beq_self_eq_true _
 have HP:=zAA (hp.only ((Only.refl [] w).alloc (.cells #[.string s1,.string s2,.int .u32 (lo:Nat),.int .u32 (re:Nat),.bool beg,.int .i64 made,.int .u64 (n:Nat),.slice A ln cap] 53)) (by simp))
 have HR:=zAA (Blk.new w 53 #[.string s1,.string s2,.int .u32 (lo:Nat),.int .u32 (re:Nat),.bool beg,.int .i64 made,.int .u64 (n:Nat),.slice A ln cap])
 have HO:=zAA ((Only.refl [] w).alloc (.cells #[.string s1,.string s2,.int .u32 (lo:Nat),.int .u32 (re:Nat),.bool beg,.int .i64 made,.int .u64 (n:Nat),.slice A ln cap] 53))
 clear hp
 go_enter func35,ntmps35
 go_upto_region 1 with fail
 generalize (w.alloc (.cells #[.string s1,.string s2,.int .u32 (lo:Nat),.int .u32 (re:Nat),.bool beg,.int .i64 made,.int .u64 (n:Nat),.slice A ln cap] 53))=v0 at *
 refine wp_region_held_drew (S:=fun W=>Only [] v0 W) (by kernel_rfl) (by exact(Only.refl [] v0).drew) (fun hHeld=>?_);generalize v0.drew=wd1 at *
 refine tk 0 ?_;refine tk 2 ?_;refine tk 3 ?_ (hy:=by(intro w hSw;(try dsimp only at hSw);have HRw:=HR.out.only hSw (by simp);have r2:=HRw.cell 2;simp at r2;clear HRw;go_simp;try with_reducible rfl))
 refine wpAnyH_ready (rs:=[1]) (by kernel_rfl) (by simp) ?_;refine(AllReadyH.cons rfl (fun K hK=>?_) AllReadyH.nil);go_simp
 (go_at_call 80;refine(zH5 _ g c s1 s2 lo re beg made n (HP.out.only hHeld (by simp))).mono ?_;rintro e2 w1 ⟨rfl,hwq⟩;have ho:=zBt hwq;clear hwq)
 refine hK.out _ _ (by first|exact hHeld.trans ho|exact hHeld.trans (ho.mono (by simp))) (fun hN=>?_);clear hK K ho hHeld;have hHeld:=hN;clear hN;(try simp only[zsa,zsb,zsc,Act.put,zsd,zse,zsf])
 refine tk 4 ?_;refine tk 5 ?_;refine tk 6 ?_;refine tk 8 ?_
 refine tk 9 ?_ (hy:=by(intro w hSw;(try dsimp only at hSw);have HRw:=HR.out.only hSw (by simp);have r3:=HRw.cell 3;simp at r3;clear HRw;go_simp;try with_reducible rfl))
 refine wpAnyH_ready (rs:=[7]) (by kernel_rfl) (by simp) ?_;refine(AllReadyH.cons rfl (fun K hK=>?_) AllReadyH.nil);go_simp
 (go_at_call 81;refine(zGo _ g c s1 s2 lo re beg made n (HP.out.only hHeld (by simp))).mono ?_;rintro e2 w7 ⟨rfl,hwq⟩;have ho:=zBt hwq;clear hwq)
 refine hK.out _ _ (by first|exact hHeld.trans ho|exact hHeld.trans (ho.mono (by simp))) (fun hN=>?_);clear hK K ho hHeld;have hHeld:=hN;clear hN;(try simp only[zsa,zsb,zsc,Act.put,zsd,zse,zsf])
 refine tk 10 ?_;refine tk 11 ?_;refine tk 12 ?_;refine tk 13 ?_;refine tk 15 ?_
 refine tk 16 ?_ (hy:=by(intro w hSw;(try dsimp only at hSw);have HRw:=HR.out.only hSw (by simp);have r4:=HRw.cell 4;simp at r4;clear HRw;go_simp;try with_reducible rfl))
 refine wpAnyH_ready (rs:=[14]) (by kernel_rfl) (by simp) ?_;refine(AllReadyH.cons rfl (fun K hK=>?_) AllReadyH.nil);go_simp
 (go_at_call 82;refine(zKa _ g c s1 s2 lo re beg made n (HP.out.only hHeld (by simp))).mono ?_;rintro e2 w14 ⟨rfl,hwq⟩;have ho:=zBt hwq;clear hwq)
 refine hK.out _ _ (by first|exact hHeld.trans ho|exact hHeld.trans (ho.mono (by simp))) (fun hN=>?_);clear hK K ho hHeld;have hHeld:=hN;clear hN;(try simp only[zsa,zsb,zsc,Act.put,zsd,zse,zsf])
 refine tk 17 ?_;refine tk 18 ?_;refine tk 19 ?_;refine tk 20 ?_;refine tk 22 ?_
 refine tk 23 ?_ (hy:=by(intro w hSw;(try dsimp only at hSw);have HRw:=HR.out.only hSw (by simp);have r5:=HRw.cell 5;simp at r5;clear HRw;go_simp;try with_reducible rfl))
 refine wpAnyH_ready (rs:=[21]) (by kernel_rfl) (by simp) ?_;refine(AllReadyH.cons rfl (fun K hK=>?_) AllReadyH.nil);go_simp
 (go_at_call 83;refine(zI6 _ g c s1 s2 lo re beg made n (HP.out.only hHeld (by simp))).mono ?_;rintro e2 w21 ⟨rfl,hwq⟩;have ho:=zBt hwq;clear hwq)
 refine hK.out _ _ (by first|exact hHeld.trans ho|exact hHeld.trans (ho.mono (by simp))) (fun hN=>?_);clear hK K ho hHeld;have hHeld:=hN;clear hN;(try simp only[zsa,zsb,zsc,Act.put,zsd,zse,zsf])
 refine tk 24 ?_;refine tk 25 ?_;refine tk 26 ?_;refine tk 27 ?_;refine tk 29 ?_
 refine tk 30 ?_ (hy:=by(intro w hSw;(try dsimp only at hSw);have HRw:=HR.out.only hSw (by simp);have r6:=HRw.cell 6;simp at r6;clear HRw;go_simp;try with_reducible rfl))
 refine wpAnyH_ready (rs:=[28]) (by kernel_rfl) (by simp) ?_;refine(AllReadyH.cons rfl (fun K hK=>?_) AllReadyH.nil);go_simp
 (go_at_call 84;refine(zI7 _ g c s1 s2 lo re beg made n (HP.out.only hHeld (by simp))).mono ?_;rintro e2 w28 ⟨rfl,hwq⟩;have ho:=zBt hwq;clear hwq)
 refine hK.out _ _ (by first|exact hHeld.trans ho|exact hHeld.trans (ho.mono (by simp))) (fun hN=>?_);clear hK K ho hHeld;have hHeld:=hN;clear hN;(try simp only[zsa,zsb,zsc,Act.put,zsd,zse,zsf])
 refine tk 31 ?_;refine tk 32 ?_;refine tk 33 ?_;refine tk 34 ?_;refine tk 35 ?_
 refine tk 37 ?_ (hy:=by(intro w hSw;(try dsimp only at hSw);have HRw:=HR.out.only hSw (by simp);have r0:=HRw.cell 0;have r1:=HRw.cell 1;have r2:=HRw.cell 2;have r3:=HRw.cell 3;have r4:=HRw.cell 4;have r5:=HRw.cell 5;have r6:=HRw.cell 6;have r7:=HRw.cell 7;simp at r0 r1 r2 r3 r4 r5 r6 r7;clear HRw;go_simp;try with_reducible rfl))
 refine tk 38 ?_;refine wpAnyH_ready (rs:=[36]) (by kernel_rfl) (by simp) ?_;refine(AllReadyH.cons rfl (fun K hK=>?_) AllReadyH.nil);go_simp
 (go_at_call 85;refine(zH6 _ g c s1 s2 lo re beg made n (HP.out.only hHeld (by simp)) now hm.out.1 hm.out.2).mono ?_;rw[HFV.out];rintro e2 w36 ⟨rfl,hwq⟩;have ho:=zBt hwq;clear hwq)
 refine hK.out _ _ (by first|exact hHeld.trans ho|exact hHeld.trans (ho.mono (by simp))) (fun hN=>?_);clear hK K ho hHeld;have hHeld:=hN;clear hN;(try simp only[zsa,zsb,zsc,Act.put,zsd,zse,zsf])
 refine wpAnyH_ready (rs:=[39]) (by kernel_rfl) (by simp) ?_;refine(AllReadyH.cons rfl (fun K hK=>?_) AllReadyH.nil);go_simp
 (go_at_call 72;refine(zDH _ s1 s2 lo re beg made n A ln cap now hm.out.1 hm.out.2).mono ?_;unfold zAn;rw[HFV.out];rintro e2 w39 ⟨rfl,ho⟩)
 refine hK.out _ _ (by first|exact hHeld.trans ho|exact hHeld.trans (ho.mono (by simp))) (fun hN=>?_);clear hK K ho hHeld;have hHeld:=hN;clear hN;(try simp only[zsa,zsb,zsc,Act.put,zsd,zse,zsf])
 refine tk 40 ?_;refine tk 41 ?_;refine tk 42 ?_;refine tk 43 ?_;refine tk 44 ?_
 refine tk 46 ?_ (hy:=by(intro w hSw;(try dsimp only at hSw);have HRw:=HR.out.only hSw (by simp);have r0:=HRw.cell 0;have r1:=HRw.cell 1;have r2:=HRw.cell 2;have r3:=HRw.cell 3;have r4:=HRw.cell 4;have r5:=HRw.cell 5;have r6:=HRw.cell 6;have r7:=HRw.cell 7;simp at r0 r1 r2 r3 r4 r5 r6 r7;clear HRw;go_simp;try with_reducible rfl))
 refine tk 47 ?_;refine wpAnyH_ready (rs:=[45]) (by kernel_rfl) (by simp) ?_;refine(AllReadyH.cons rfl (fun K hK=>?_) AllReadyH.nil);go_simp
 (go_at_call 86;refine(zH7 _ g c s1 s2 lo re beg made n (HP.out.only hHeld (by simp)) now 120000 hm.out.1 hm.out.2).mono ?_;rw[HTV.out];rintro e2 w45 ⟨rfl,hwq⟩;have ho:=zBt hwq;clear hwq)
 refine hK.out _ _ (by first|exact hHeld.trans ho|exact hHeld.trans (ho.mono (by simp))) (fun hN=>?_);clear hK K ho hHeld;have hHeld:=hN;clear hN;(try simp only[zsa,zsb,zsc,Act.put,zsd,zse,zsf])
 refine wpAnyH_ready (rs:=[48]) (by kernel_rfl) (by simp) ?_;refine(AllReadyH.cons rfl (fun K hK=>?_) AllReadyH.nil);go_simp
 (go_at_call 87;refine(zIP _ s1 s2 lo re beg made n A ln cap now hm.out.1 hm.out.2 120000).mono ?_;unfold zAn;rw[HTV.out];rintro e2 w48 ⟨rfl,ho⟩)
 refine hK.out _ _ (by first|exact hHeld.trans ho|exact hHeld.trans (ho.mono (by simp))) (fun hN=>?_);clear hK K ho hHeld;have hHeld:=hN;clear hN;(try simp only[zsa,zsb,zsc,Act.put,zsd,zse,zsf])
 refine tk 49 ?_;refine tk 50 ?_;refine tk 51 ?_;refine wpAnyH_done (by kernel_rfl) ?_ _
 (repeat go_step)
 go_ret
 exact zBz rfl (HO.out.trans hHeld)
end
section
open Go.Proofs.Tryz
set_option maxHeartbeats 6400000
set_option maxRecDepth 100000
open Go.RowKit Go.Deep

theorem zMk(w:World)(s r c:Nat)(g o cap:Nat)(x0 x1 x2 x3 x4:ByteArray)(_hc:5<=cap)(h0:w.cell? ⟨g,o,none⟩=some (.string x0))(h1:w.cell? ⟨g,o+1,none⟩=some (.string x1))(h2:w.cell? ⟨g,o+2,none⟩=some (.string x2))(h3:w.cell? ⟨g,o+3,none⟩=some (.string x3))(h4:w.cell? ⟨g,o+4,none⟩=some (.string x4)) :
  Calls prog 47 #[.int .i64 1,.int .u32 (s:Nat),.int .u32 (r:Nat),.int .u64 (c:Nat),.slice (some ⟨g,o,none⟩) 5 cap] w fun e w' =>
   e=.returned (.agg #[.int .i64 1,.int .u32 (s:Nat),.int .u32 0,.int .u64 0,.string x0,.string x1,.string x2,.string ⟨#[]⟩,.string ⟨#[]⟩,.string ⟨#[]⟩,.string ⟨#[]⟩,.string x3,.string x4])∧Only [] w w':=by
 have hg:g<w.heap.size:=by have:=World.block_lt_of_cell? w _ h0;simpa using this
 have HRB:=zAA (Blk.new w 25 #[.int .i64 0,.int .u32 0,.int .u32 0,.int .u64 0,.string ⟨#[]⟩,.string ⟨#[]⟩,.string ⟨#[]⟩,.string ⟨#[]⟩,.string ⟨#[]⟩,.string ⟨#[]⟩,.string ⟨#[]⟩,.string ⟨#[]⟩,.string ⟨#[]⟩])
 have HO:=zAA ((Only.refl [] w).alloc (.cells #[.int .i64 0,.int .u32 0,.int .u32 0,.int .u64 0,.string ⟨#[]⟩,.string ⟨#[]⟩,.string ⟨#[]⟩,.string ⟨#[]⟩,.string ⟨#[]⟩,.string ⟨#[]⟩,.string ⟨#[]⟩,.string ⟨#[]⟩,.string ⟨#[]⟩] 25))
 have d0:=(zAX HO.out hg (by simp)).trans h0
 have d1:=(zAX HO.out hg (by simp)).trans h1
 have d2:=(zAX HO.out hg (by simp)).trans h2
 have d3:=(zAX HO.out hg (by simp)).trans h3
 have d4:=(zAX HO.out hg (by simp)).trans h4
 go_enter func47,ntmps47
 go_wp2_with fail
 generalize (w.alloc (.cells #[.int .i64 0,.int .u32 0,.int .u32 0,.int .u64 0,.string ⟨#[]⟩,.string ⟨#[]⟩,.string ⟨#[]⟩,.string ⟨#[]⟩,.string ⟨#[]⟩,.string ⟨#[]⟩,.string ⟨#[]⟩,.string ⟨#[]⟩,.string ⟨#[]⟩] 25))=W at *
 have r0:=HRB.out.cell 0
 have r1:=HRB.out.cell 1
 have r2:=HRB.out.cell 2
 have r3:=HRB.out.cell 3
 have r4:=HRB.out.cell 4
 have r5:=HRB.out.cell 5
 have r6:=HRB.out.cell 6
 have r7:=HRB.out.cell 7
 have r8:=HRB.out.cell 8
 have r9:=HRB.out.cell 9
 have r10:=HRB.out.cell 10
 have r11:=HRB.out.cell 11
 have r12:=HRB.out.cell 12
 simp at r0 r1 r2 r3 r4 r5 r6 r7 r8 r9 r10 r11 r12
 have rf:=HRB.out.frozen
 go_still_tail 17,(by kernel_rfl)
 change wpList _ _ _ _ _ W.drew
 go_wp2_with fail
 refine bodyPost_ret (results_cell_row rfl _ _ w.heap.size 25 _ (0,0) _ rfl ((zEy HRB.out (.int .i64 1) (.int .u32 (s:Nat)) (.int .u32 0) (.int .u64 0) (.string x0) (.string x1) (.string x2) (.string ⟨#[]⟩) (.string ⟨#[]⟩) (.string ⟨#[]⟩) (.string ⟨#[]⟩) (.string x3) (.string x4)).drew) underlying25 rfl (by kernel_rfl)) rfl ?_
 exact⟨rfl,(zDN HO.out (.inr (Nat.le_refl _)) (.int .i64 1) (.int .u32 (s:Nat)) (.int .u32 0) (.int .u64 0) (.string x0) (.string x1) (.string x2) (.string ⟨#[]⟩) (.string ⟨#[]⟩) (.string ⟨#[]⟩) (.string ⟨#[]⟩) (.string x3) (.string x4)).drew⟩

theorem zMl(w:World)(s r c:Nat)(g o cap:Nat)(x0 x1 x2 x3:ByteArray)(_hc:4<=cap)(h0:w.cell? ⟨g,o,none⟩=some (.string x0))(h1:w.cell? ⟨g,o+1,none⟩=some (.string x1))(h2:w.cell? ⟨g,o+2,none⟩=some (.string x2))(h3:w.cell? ⟨g,o+3,none⟩=some (.string x3)) :
  Calls prog 47 #[.int .i64 2,.int .u32 (s:Nat),.int .u32 (r:Nat),.int .u64 (c:Nat),.slice (some ⟨g,o,none⟩) 4 cap] w fun e w' =>
   e=.returned (.agg #[.int .i64 2,.int .u32 (s:Nat),.int .u32 (r:Nat),.int .u64 0,.string x0,.string ⟨#[]⟩,.string ⟨#[]⟩,.string x1,.string ⟨#[]⟩,.string ⟨#[]⟩,.string ⟨#[]⟩,.string x2,.string x3])∧Only [] w w':=by
 have hg:g<w.heap.size:=by have:=World.block_lt_of_cell? w _ h0;simpa using this
 have HRB:=zAA (Blk.new w 25 #[.int .i64 0,.int .u32 0,.int .u32 0,.int .u64 0,.string ⟨#[]⟩,.string ⟨#[]⟩,.string ⟨#[]⟩,.string ⟨#[]⟩,.string ⟨#[]⟩,.string ⟨#[]⟩,.string ⟨#[]⟩,.string ⟨#[]⟩,.string ⟨#[]⟩])
 have HO:=zAA ((Only.refl [] w).alloc (.cells #[.int .i64 0,.int .u32 0,.int .u32 0,.int .u64 0,.string ⟨#[]⟩,.string ⟨#[]⟩,.string ⟨#[]⟩,.string ⟨#[]⟩,.string ⟨#[]⟩,.string ⟨#[]⟩,.string ⟨#[]⟩,.string ⟨#[]⟩,.string ⟨#[]⟩] 25))
 have d0:=(zAX HO.out hg (by simp)).trans h0
 have d1:=(zAX HO.out hg (by simp)).trans h1
 have d2:=(zAX HO.out hg (by simp)).trans h2
 have d3:=(zAX HO.out hg (by simp)).trans h3
 go_enter func47,ntmps47
 go_wp2_with fail
 generalize (w.alloc (.cells #[.int .i64 0,.int .u32 0,.int .u32 0,.int .u64 0,.string ⟨#[]⟩,.string ⟨#[]⟩,.string ⟨#[]⟩,.string ⟨#[]⟩,.string ⟨#[]⟩,.string ⟨#[]⟩,.string ⟨#[]⟩,.string ⟨#[]⟩,.string ⟨#[]⟩] 25))=W at *
 have r0:=HRB.out.cell 0
 have r1:=HRB.out.cell 1
 have r2:=HRB.out.cell 2
 have r3:=HRB.out.cell 3
 have r4:=HRB.out.cell 4
 have r5:=HRB.out.cell 5
 have r6:=HRB.out.cell 6
 have r7:=HRB.out.cell 7
 have r8:=HRB.out.cell 8
 have r9:=HRB.out.cell 9
 have r10:=HRB.out.cell 10
 have r11:=HRB.out.cell 11
 have r12:=HRB.out.cell 12
 simp at r0 r1 r2 r3 r4 r5 r6 r7 r8 r9 r10 r11 r12
 have rf:=HRB.out.frozen
 go_still_tail 15,(by kernel_rfl)
 change wpList _ _ _ _ _ W.drew
 go_wp2_with fail
 refine bodyPost_ret (results_cell_row rfl _ _ w.heap.size 25 _ (0,0) _ rfl ((zEy HRB.out (.int .i64 2) (.int .u32 (s:Nat)) (.int .u32 (r:Nat)) (.int .u64 0) (.string x0) (.string ⟨#[]⟩) (.string ⟨#[]⟩) (.string x1) (.string ⟨#[]⟩) (.string ⟨#[]⟩) (.string ⟨#[]⟩) (.string x2) (.string x3)).drew) underlying25 rfl (by kernel_rfl)) rfl ?_
 exact⟨rfl,(zDN HO.out (.inr (Nat.le_refl _)) (.int .i64 2) (.int .u32 (s:Nat)) (.int .u32 (r:Nat)) (.int .u64 0) (.string x0) (.string ⟨#[]⟩) (.string ⟨#[]⟩) (.string x1) (.string ⟨#[]⟩) (.string ⟨#[]⟩) (.string ⟨#[]⟩) (.string x2) (.string x3)).drew⟩

theorem zMm(w:World)(s r c:Nat)(g o cap:Nat)(x0 x1:ByteArray)(_hc:2<=cap)(h0:w.cell? ⟨g,o,none⟩=some (.string x0))(h1:w.cell? ⟨g,o+1,none⟩=some (.string x1)) :
  Calls prog 47 #[.int .i64 3,.int .u32 (s:Nat),.int .u32 (r:Nat),.int .u64 (c:Nat),.slice (some ⟨g,o,none⟩) 2 cap] w fun e w' =>
   e=.returned (.agg #[.int .i64 3,.int .u32 0,.int .u32 (r:Nat),.int .u64 0,.string ⟨#[]⟩,.string ⟨#[]⟩,.string ⟨#[]⟩,.string ⟨#[]⟩,.string x0,.string x1,.string ⟨#[]⟩,.string ⟨#[]⟩,.string ⟨#[]⟩])∧Only [] w w':=by
 have hg:g<w.heap.size:=by have:=World.block_lt_of_cell? w _ h0;simpa using this
 have HRB:=zAA (Blk.new w 25 #[.int .i64 0,.int .u32 0,.int .u32 0,.int .u64 0,.string ⟨#[]⟩,.string ⟨#[]⟩,.string ⟨#[]⟩,.string ⟨#[]⟩,.string ⟨#[]⟩,.string ⟨#[]⟩,.string ⟨#[]⟩,.string ⟨#[]⟩,.string ⟨#[]⟩])
 have HO:=zAA ((Only.refl [] w).alloc (.cells #[.int .i64 0,.int .u32 0,.int .u32 0,.int .u64 0,.string ⟨#[]⟩,.string ⟨#[]⟩,.string ⟨#[]⟩,.string ⟨#[]⟩,.string ⟨#[]⟩,.string ⟨#[]⟩,.string ⟨#[]⟩,.string ⟨#[]⟩,.string ⟨#[]⟩] 25))
 have d0:=(zAX HO.out hg (by simp)).trans h0
 have d1:=(zAX HO.out hg (by simp)).trans h1
 go_enter func47,ntmps47
 go_wp2_with fail
 generalize (w.alloc (.cells #[.int .i64 0,.int .u32 0,.int .u32 0,.int .u64 0,.string ⟨#[]⟩,.string ⟨#[]⟩,.string ⟨#[]⟩,.string ⟨#[]⟩,.string ⟨#[]⟩,.string ⟨#[]⟩,.string ⟨#[]⟩,.string ⟨#[]⟩,.string ⟨#[]⟩] 25))=W at *
 have r0:=HRB.out.cell 0
 have r1:=HRB.out.cell 1
 have r2:=HRB.out.cell 2
 have r3:=HRB.out.cell 3
 have r4:=HRB.out.cell 4
 have r5:=HRB.out.cell 5
 have r6:=HRB.out.cell 6
 have r7:=HRB.out.cell 7
 have r8:=HRB.out.cell 8
 have r9:=HRB.out.cell 9
 have r10:=HRB.out.cell 10
 have r11:=HRB.out.cell 11
 have r12:=HRB.out.cell 12
 simp at r0 r1 r2 r3 r4 r5 r6 r7 r8 r9 r10 r11 r12
 have rf:=HRB.out.frozen
 go_still_tail 8,(by kernel_rfl)
 change wpList _ _ _ _ _ W.drew
 go_wp2_with fail
 refine bodyPost_ret (results_cell_row rfl _ _ w.heap.size 25 _ (0,0) _ rfl ((zEy HRB.out (.int .i64 3) (.int .u32 0) (.int .u32 (r:Nat)) (.int .u64 0) (.string ⟨#[]⟩) (.string ⟨#[]⟩) (.string ⟨#[]⟩) (.string ⟨#[]⟩) (.string x0) (.string x1) (.string ⟨#[]⟩) (.string ⟨#[]⟩) (.string ⟨#[]⟩)).drew) underlying25 rfl (by kernel_rfl)) rfl ?_
 exact⟨rfl,(zDN HO.out (.inr (Nat.le_refl _)) (.int .i64 3) (.int .u32 0) (.int .u32 (r:Nat)) (.int .u64 0) (.string ⟨#[]⟩) (.string ⟨#[]⟩) (.string ⟨#[]⟩) (.string ⟨#[]⟩) (.string x0) (.string x1) (.string ⟨#[]⟩) (.string ⟨#[]⟩) (.string ⟨#[]⟩)).drew⟩

theorem zFA(w:World)(s r c:Nat)(g o cap:Nat)(x0:ByteArray)(_hc:1<=cap)(h0:w.cell? ⟨g,o,none⟩=some (.string x0)) :
  Calls prog 47 #[.int .i64 4,.int .u32 (s:Nat),.int .u32 (r:Nat),.int .u64 (c:Nat),.slice (some ⟨g,o,none⟩) 1 cap] w fun e w' =>
   e=.returned (.agg #[.int .i64 4,.int .u32 0,.int .u32 (r:Nat),.int .u64 (c:Nat),.string ⟨#[]⟩,.string ⟨#[]⟩,.string ⟨#[]⟩,.string ⟨#[]⟩,.string ⟨#[]⟩,.string ⟨#[]⟩,.string x0,.string ⟨#[]⟩,.string ⟨#[]⟩])∧Only [] w w':=by
 have hg:g<w.heap.size:=by have:=World.block_lt_of_cell? w _ h0;simpa using this
 have HRB:=zAA (Blk.new w 25 #[.int .i64 0,.int .u32 0,.int .u32 0,.int .u64 0,.string ⟨#[]⟩,.string ⟨#[]⟩,.string ⟨#[]⟩,.string ⟨#[]⟩,.string ⟨#[]⟩,.string ⟨#[]⟩,.string ⟨#[]⟩,.string ⟨#[]⟩,.string ⟨#[]⟩])
 have HO:=zAA ((Only.refl [] w).alloc (.cells #[.int .i64 0,.int .u32 0,.int .u32 0,.int .u64 0,.string ⟨#[]⟩,.string ⟨#[]⟩,.string ⟨#[]⟩,.string ⟨#[]⟩,.string ⟨#[]⟩,.string ⟨#[]⟩,.string ⟨#[]⟩,.string ⟨#[]⟩,.string ⟨#[]⟩] 25))
 have d0:=(zAX HO.out hg (by simp)).trans h0
 go_enter func47,ntmps47
 go_upto_region 8 with fail
 generalize (w.alloc (.cells #[.int .i64 0,.int .u32 0,.int .u32 0,.int .u64 0,.string ⟨#[]⟩,.string ⟨#[]⟩,.string ⟨#[]⟩,.string ⟨#[]⟩,.string ⟨#[]⟩,.string ⟨#[]⟩,.string ⟨#[]⟩,.string ⟨#[]⟩,.string ⟨#[]⟩] 25))=W at *
 have r0:=HRB.out.cell 0
 have r1:=HRB.out.cell 1
 have r2:=HRB.out.cell 2
 have r3:=HRB.out.cell 3
 have r4:=HRB.out.cell 4
 have r5:=HRB.out.cell 5
 have r6:=HRB.out.cell 6
 have r7:=HRB.out.cell 7
 have r8:=HRB.out.cell 8
 have r9:=HRB.out.cell 9
 have r10:=HRB.out.cell 10
 have r11:=HRB.out.cell 11
 have r12:=HRB.out.cell 12
 simp at r0 r1 r2 r3 r4 r5 r6 r7 r8 r9 r10 r11 r12
 have rf:=HRB.out.frozen
 go_wp2_with fail
 refine bodyPost_ret (results_cell_row rfl _ _ w.heap.size 25 _ (0,0) _ rfl ((zEy HRB.out (.int .i64 4) (.int .u32 0) (.int .u32 (r:Nat)) (.int .u64 (c:Nat)) (.string ⟨#[]⟩) (.string ⟨#[]⟩) (.string ⟨#[]⟩) (.string ⟨#[]⟩) (.string ⟨#[]⟩) (.string ⟨#[]⟩) (.string x0) (.string ⟨#[]⟩) (.string ⟨#[]⟩))) underlying25 rfl (by kernel_rfl)) rfl ?_
 exact⟨rfl,(zDN HO.out (.inr (Nat.le_refl _)) (.int .i64 4) (.int .u32 0) (.int .u32 (r:Nat)) (.int .u64 (c:Nat)) (.string ⟨#[]⟩) (.string ⟨#[]⟩) (.string ⟨#[]⟩) (.string ⟨#[]⟩) (.string ⟨#[]⟩) (.string ⟨#[]⟩) (.string x0) (.string ⟨#[]⟩) (.string ⟨#[]⟩))⟩
end
end Go.Proofs.YtfipdjlalfpbnaaGreatDoor
