/-
  Walks and plain words (texts Tm8, Tm9, Pr1, Win, Win2). No condition beyond those that each theorem states.
-/
import Derived.Defers
import Derived.Recover
import Derived.Test.YtfipdjlalfpbnaaGreatDoorA05
namespace Go.Proofs.YtfipdjlalfpbnaaGreatDoor
section
open Go.Proofs.Tryz
set_option maxHeartbeats 3200000
set_option maxRecDepth 100000
open Go.RowKit Go.Deep

theorem zKW(s:ByteArray):∀f,zLh s f:=by
 intro f
 induction f using Nat.strongRecOn with
 | _ f ih =>
  cases f with
  | zero=>intro w g p keep _ _ _ h;omega
  | succ f=>exact zKV s f (zKU s f fun f' h=>ih f' (by omega))

theorem zH0(p q:Addr)(w:World) :
  CallsD prog 130 #[.pointer (some p),.pointer (some q)] .returning w fun e u' w'=>e=.returned (.tuple #[])∧u'=.returning∧w'=w:=by
 refine callsD_of_wpS func130 rfl fun c₀ cs hu=>?_
 apply wpS_seq
 apply wpS_region
 simp[wpOpsS,go_sem,recoverD,hu,ntmps130,Exit.thenS]
 apply wpS_seq
 apply wpS_region
 simp[wpOpsS,go_sem,Exit.thenS]
 refine wpS_cond (t:=false) (by simp[Act.eval,Array.replicate]) ?_
 simp only[Bool.false_eq_true,if_false]
 refine wpS_of_wp (wp_skip ?_)
 cases c₀
 simp_all[bodyPostS,results,Tryz.results130]

theorem zCv(B C:Nat)(u:TypeId)(pv a b c d x:Value)(tb:TypeId)(older:List PanicEntry)(w:World)(hB:Blk w B 145 #[a,b,c,d])(hC:Blk w C tb #[x])(hne:B≠C) :
  CallsD prog 130 #[.pointer (some ⟨B,0,none⟩),.pointer (some ⟨C,0,none⟩)] (.panicking ({ v:=.iface u pv,recovered:=false }::older)) w fun e u' w' =>
   e=.returned (.tuple #[])∧u'=.panicking ({ v:=.iface u pv,recovered:=true }::older)∧w'=(fin B 0 0 (.slice none 0 0) (.slice none 0 0) w).setCell ⟨C,0,none⟩ (.bool false):=by
 have b0:=hB.cell 0
 have b1:=hB.cell 1
 have b2:=hB.cell 2
 have b3:=hB.cell 3
 have bf:=hB.frozen
 have c0:=hC.cell 0
 have cf:=hC.frozen 0
 simp at b0 b1 b2 b3 c0
 refine callsD_of_wpS func130 rfl fun c₀ cs hu=>?_
 apply wpS_seq
 apply wpS_region
 simp[wpOpsS,go_sem,recoverD,hu,ntmps130,Exit.thenS]
 apply wpS_seq
 apply wpS_region
 simp[wpOpsS,go_sem,Exit.thenS]
 refine wpS_cond (t:=true) (by simp[Act.eval,Array.replicate]) ?_
 simp only[if_true]
 apply wpS_region
 simp[wpOpsS,go_sem,b0,b1,b2,b3,bf,c0,cf,bodyPostS,results,Tryz.results130]
 rfl

def zAE(s:ByteArray):Option Nd :=
 if 65536<s.size then none else
  match rd s (2*s.size+2) none 0 with
  | none=>none
  | some (nd,q)=>if q=s.size then some nd else none
def nd0:Value:=.agg #[.int .i64 0,.int .u64 0,.slice none 0 0,.slice none 0 0]
def zER(r:Option Nd)(w:World)(e:Ending)(w':World):Prop :=
 match r with
 | none=>e=.returned (.tuple #[nd0,.bool false])∧Only [] w w'
 | some nd=>∃bv pv,e=.returned (.tuple #[.agg #[.int .i64 nd.1,.int .u64 nd.2.1,bv,pv],.bool true])∧Only [] w w' ∧
   (∀N:List Nat,(∀x∈N,x<w.heap.size)->Rd w' N bv (zBR .u8 (zBo nd.2.2.1)))∧(∀N:List Nat,(∀x∈N,x<w.heap.size)->Rd w' N pv (zAq nd.2.2.2))
theorem zFV{r:Option Nd}{w w':World}(h:r=none)(ho:Only [] w w'):zER r w (.returned (.tuple #[nd0,.bool false])) w':=by
 subst h;exact⟨rfl,ho⟩

theorem zIx{r:Option Nd}{w w':World}{k:Int}{n:Nat}{bs:List UInt8}{parts:List ByteArray}{bv pv:Value}(h:r=some (k,n,bs,parts))(ho:Only [] w w')
  (hb:∀N:List Nat,(∀x∈N,x<w.heap.size)->Rd w' N bv (zBR .u8 (zBo bs))) (hp:∀N:List Nat,(∀x∈N,x<w.heap.size)->Rd w' N pv (zAq parts)) :
  zER r w (.returned (.tuple #[.agg #[.int .i64 k,.int .u64 n,bv,pv],.bool true])) w':=by
 subst h;exact⟨_,_,rfl,ho,hb,hp⟩
def zs4:Array Value:=#[.int .i64 0,.int .u64 0,.slice none 0 0,.slice none 0 0]
theorem zES(w:World)(s:ByteArray)(hs:s.size<=maxLen):Calls prog 107 #[.string s] w (zER (zAE s) w):=by
 unfold maxLen at hs
 have hmf:∀(fn:Fn) (first cap:Array Value) (w:World),(Instr.makeFunc fn first cap).run prog w=.ok (.func fn first cap) w:=fun _ _ _ _=>rfl
 by_cases hlt:65536<s.size
 ·have hltI:(65536:Int)<s.size:=by omega
  have HR:=zAA (show zAE s=none by unfold zAE;rw[if_pos hlt])
  have HO:=zAA (((Only.refl [] w).alloc (.cells zs4 145)).alloc (.cells #[.bool false] 4))
  clear hlt
  go_enter_defers func107,ntmps107
  go_wp2_with fail
  simp[Leaves,results,Tryz.results107,go_sem,bodyPostD]
  exact zFV HR.out HO.out
 ·have hltI:¬(65536:Int)<s.size:=by omega
  have HT:=zAA (fun W h=>zKW s (2*s.size+2) W (w.heap.size+1+1) 0 true h (Nat.zero_le _) (by omega) (by omega))
  have HV:=zAA (show zAE s=match rd s (2*s.size+2) none 0 with|none=>none|some (nd,q)=>if q=s.size then some nd else none by unfold zAE;rw[if_neg hlt])
  have HO:=zAA ((((Only.refl [] w).alloc (.cells zs4 145)).alloc (.cells #[.bool false] 4)).alloc (.cells #[.string s,.int .i64 0] 180))
  have HB:=zAA (((Blk.new w 145 zs4).alloc (.cells #[.bool false] 4)).alloc (.cells #[.string s,.int .i64 0] 180))
  have HC:=zAA (show Blk (((w.alloc (.cells zs4 145)).alloc (.cells #[.bool false] 4)).alloc (.cells #[.string s,.int .i64 0] 180)) (w.heap.size+1) 4 #[.bool false]by
   have h:=(Blk.new (w.alloc (.cells zs4 145)) 4 #[.bool false]).alloc (.cells #[.string s,.int .i64 0] 180)
   simpa using h)
  have HA:=zAA (show At (w.heap.size+1+1) s 0 (((w.alloc (.cells zs4 145)).alloc (.cells #[.bool false] 4)).alloc (.cells #[.string s,.int .i64 0] 180))by
   have h:=Blk.new ((w.alloc (.cells zs4 145)).alloc (.cells #[.bool false] 4)) 180 #[.string s,.int .i64 0]
   simpa [At] using h)
  unfold zs4 at HO HB HC HA
  cases hr:rd s (2*s.size+2) none 0 with
  | none =>
   have HR:=zAA (show zAE s=none by rw[HV.out,hr])
   rw[hr]at HT
   clear hr
   go_enter_defers func107,ntmps107
   go_wp2_with (go_at_call 131;refine(HT.out _ HA.out).mono ?_;rintro e w4 ⟨rfl,ho4⟩)
   have HB4:=zAA (HB.out.only ho4 (by simp;omega))
   have HC4:=zAA (HC.out.only ho4 (by simp))
   refine leaves_cons (f:=130) (args:=#[.pointer (some ⟨w.heap.size,0,none⟩),.pointer (some ⟨w.heap.size+1,0,none⟩)]) (by simp) (by simp[go_sem]) ?_
   refine(zCv w.heap.size (w.heap.size+1) _ _ _ _ _ _ _ _ [] _ HB4.out HC4.out (by omega)).mono ?_
   rintro e u' w5 ⟨rfl,rfl,hw⟩
   have HB5:=zAA (show Blk w5 w.heap.size 145 #[.int .i64 0,.int .u64 0,.slice none 0 0,.slice none 0 0]by rw[hw];exact(zCO (n:=0) HB4.out).far (p:=⟨w.heap.size+1,0,none⟩) (by simp) _)
   have HC5:=zAA (show Blk w5 (w.heap.size+1) 4 #[.bool false]by rw[hw];exact(HC4.out.only (zBh _ _ _ _ _ _) (by simp)).set_ 0 _)
   have HO5:=zAA (show Only [] w w5 by rw[hw];exact((((HO.out.mono (by simp)).trans (ho4.mono (S':=[w.heap.size+1+1]) (by simp)) |>.mono (S':=[w.heap.size,w.heap.size+1+1]) (by simp)).trans ((zBh w.heap.size 0 0 (.slice none 0 0) (.slice none 0 0) _).mono (by simp))).setCell (p:=⟨w.heap.size+1,0,none⟩) (.inr (by simp)) _).mono (by simp;omega))
   have d0:=HB5.out.cell 0
   have d1:=HB5.out.cell 1
   have d2:=HB5.out.cell 2
   have d3:=HB5.out.cell 3
   have e0:=HC5.out.cell 0
   simp at d0 d1 d2 d3 e0
   clear hw
   simp[Leaves,settle,results,Tryz.results107,go_sem,d0,d1,d2,d3,e0]
   exact zFV HR.out HO5.out
  | some r =>
   obtain⟨⟨k,n,bs,parts⟩,q⟩:=r
   rw[hr]at HT
   have hqs:=(zMb s _ _ _ _ _ hr).2
   have RD:True:=trivial
   by_cases hq:q=s.size
   ·have HR:=zAA (show zAE s=some (k,n,bs,parts)by rw[HV.out,hr];simp only;rw[if_pos hq])
    have hqb:((q:Int) != (s.size:Int))=false:=by rw[bne_eq_false_iff_eq];omega
    clear hr hq
    go_enter_defers func107,ntmps107
    go_wp2_with (go_at_call 131;refine(HT.out _ HA.out).mono ?_;rintro e w4 ⟨bv,pv,rfl,ha4,ho4,hb4,hp4⟩;obtain⟨A,cap,rfl,_,_⟩:=(hb4 [] (by simp)).formb;obtain⟨A2,cap2,rfl,_,_⟩:=(hp4 rfl [] (by simp)).form;have HRB:=zAA hb4;have HRP:=zAA (hp4 rfl);have HB4:=zAA (HB.out.only ho4 (by simp;omega));have HC4:=zAA (HC.out.only ho4 (by simp));have HO4:=zAA ((HO.out.mono (S':=[w.heap.size+1+1]) (by simp)).trans ho4);have HB6:=zAA (zCO (k:=k) (n:=n) (bv:=.slice A bs.length cap) (pv:=.slice A2 (zAq parts).length cap2) HB4.out);have HC6:=zAA (HC4.out.only (zBh w.heap.size k n (.slice A bs.length cap) (.slice A2 (zAq parts).length cap2) w4) (by simp));have HO6:=zAA ((HO4.out.mono (S':=[w.heap.size,w.heap.size+1+1]) (by simp)).trans ((zBh w.heap.size k n (.slice A bs.length cap) (.slice A2 (zAq parts).length cap2) w4).mono (by simp)));have k1:=ha4.cell 1;have b0:=HB4.out.cell 0;have b1:=HB4.out.cell 1;have b2:=HB4.out.cell 2;have b3:=HB4.out.cell 3;have bf:=HB4.out.frozen;have c0:=HC4.out.cell 0;have cf:=HC4.out.frozen 0;simp at k1 b0 b1 b2 b3 c0;clear ha4 ho4 hb4 hp4)
    refine leaves_cons (f:=130) (args:=#[.pointer (some ⟨w.heap.size,0,none⟩),.pointer (some ⟨w.heap.size+1,0,none⟩)]) (by simp) (by simp[go_sem]) ?_
    refine(zH0 _ _ _).mono ?_
    rintro e u' w5 ⟨rfl,rfl,hw⟩
    have HF:=zAA (zBh w.heap.size k n (.slice A bs.length cap) (.slice A2 (zAq parts).length cap2) (fin w.heap.size k n (.slice A bs.length cap) (.slice A2 (zAq parts).length cap2) w4))
    have HW5:=zAA (show w5=(fin w.heap.size k n (.slice A bs.length cap) (.slice A2 (zAq parts).length cap2) (fin w.heap.size k n (.slice A bs.length cap) (.slice A2 (zAq parts).length cap2) w4)).setCell ⟨w.heap.size+1,0,none⟩ (.bool true)from hw)
    clear hw
    have HB5:=zAA (show Blk w5 w.heap.size 145 #[.int .i64 k,.int .u64 n,.slice A bs.length cap,.slice A2 (zAq parts).length cap2]by rw[HW5.out];exact(zCO HB6.out).far (p:=⟨w.heap.size+1,0,none⟩) (by simp) _)
    have HC5:=zAA (show Blk w5 (w.heap.size+1) 4 #[.bool true]by rw[HW5.out];exact(HC6.out.only HF.out (by simp)).set_ 0 _)
    have HO64:=zAA (show Only [w.heap.size,w.heap.size+1] w4 w5 by rw[HW5.out];exact((((zBh w.heap.size k n (.slice A bs.length cap) (.slice A2 (zAq parts).length cap2) w4).mono (by simp)).trans (HF.out.mono (by simp))).setCell (p:=⟨w.heap.size+1,0,none⟩) (.inl (by simp)) _))
    have HO5:=zAA (show Only [] w w5 from((HO4.out.mono (S':=[w.heap.size,w.heap.size+1,w.heap.size+1+1]) (by simp)).trans (HO64.out.mono (by simp))).mono (by simp;omega))
    have d0:=HB5.out.cell 0
    have d1:=HB5.out.cell 1
    have d2:=HB5.out.cell 2
    have d3:=HB5.out.cell 3
    have e0:=HC5.out.cell 0
    simp at d0 d1 d2 d3 e0
    simp[Leaves,settle,results,Tryz.results107,go_sem,d0,d1,d2,d3,e0]
    refine zIx HR.out HO5.out (fun N hN=>?_) (fun N hN=>?_)
    ·exact((HRB.out (w.heap.size::(w.heap.size+1)::N) (by intro x hx;simp at hx ⊢;rcases hx with rfl|rfl|hx;omega;omega;have:=hN x hx;omega)).only HO64.out (by simp)).less (by intro x hx;simp[hx])
    ·exact((HRP.out (w.heap.size::(w.heap.size+1)::N) (by intro x hx;simp at hx ⊢;rcases hx with rfl|rfl|hx;omega;omega;have:=hN x hx;omega)).only HO64.out (by simp)).less (by intro x hx;simp[hx])
   ·have HR:=zAA (show zAE s=none by rw[HV.out,hr];simp only;rw[if_neg hq])
    have hqb:((q:Int) != (s.size:Int))=true:=by rw[bne_iff_ne];omega
    clear hr hq
    go_enter_defers func107,ntmps107
    go_wp2_with (go_at_call 131;refine(HT.out _ HA.out).mono ?_;rintro e w4 ⟨bv,pv,rfl,ha4,ho4,hb4,hp4⟩;obtain⟨A,cap,rfl,_,_⟩:=(hb4 [] (by simp)).formb;obtain⟨A2,cap2,rfl,_,_⟩:=(hp4 rfl [] (by simp)).form;have HRB:=zAA hb4;have HRP:=zAA (hp4 rfl);have HB4:=zAA (HB.out.only ho4 (by simp;omega));have HC4:=zAA (HC.out.only ho4 (by simp));have HO4:=zAA ((HO.out.mono (S':=[w.heap.size+1+1]) (by simp)).trans ho4);have HB6:=zAA (zCO (k:=k) (n:=n) (bv:=.slice A bs.length cap) (pv:=.slice A2 (zAq parts).length cap2) HB4.out);have HC6:=zAA (HC4.out.only (zBh w.heap.size k n (.slice A bs.length cap) (.slice A2 (zAq parts).length cap2) w4) (by simp));have HO6:=zAA ((HO4.out.mono (S':=[w.heap.size,w.heap.size+1+1]) (by simp)).trans ((zBh w.heap.size k n (.slice A bs.length cap) (.slice A2 (zAq parts).length cap2) w4).mono (by simp)));have k1:=ha4.cell 1;have b0:=HB4.out.cell 0;have b1:=HB4.out.cell 1;have b2:=HB4.out.cell 2;have b3:=HB4.out.cell 3;have bf:=HB4.out.frozen;have c0:=HC4.out.cell 0;have cf:=HC4.out.frozen 0;simp at k1 b0 b1 b2 b3 c0;clear ha4 ho4 hb4 hp4)
    refine leaves_cons (f:=130) (args:=#[.pointer (some ⟨w.heap.size,0,none⟩),.pointer (some ⟨w.heap.size+1,0,none⟩)]) (by simp) (by simp[go_sem]) ?_
    refine(zCv w.heap.size (w.heap.size+1) _ _ _ _ _ _ _ _ [] _ HB6.out HC6.out (by omega)).mono ?_
    rintro e u' w5 ⟨rfl,rfl,hw⟩
    have HB5:=zAA (show Blk w5 w.heap.size 145 #[.int .i64 0,.int .u64 0,.slice none 0 0,.slice none 0 0]by rw[hw];exact(zCO (n:=0) HB6.out).far (p:=⟨w.heap.size+1,0,none⟩) (by simp) _)
    have HC5:=zAA (show Blk w5 (w.heap.size+1) 4 #[.bool false]by rw[hw];exact(HC6.out.only (zBh _ _ _ _ _ _) (by simp)).set_ 0 _)
    have HO5:=zAA (show Only [] w w5 by rw[hw];exact(((HO6.out.mono (S':=[w.heap.size,w.heap.size+1+1]) (by simp)).trans ((zBh w.heap.size 0 0 (.slice none 0 0) (.slice none 0 0) _).mono (by simp))).setCell (p:=⟨w.heap.size+1,0,none⟩) (.inr (by simp)) _).mono (by simp;omega))
    have d0:=HB5.out.cell 0
    have d1:=HB5.out.cell 1
    have d2:=HB5.out.cell 2
    have d3:=HB5.out.cell 3
    have e0:=HC5.out.cell 0
    simp at d0 d1 d2 d3 e0
    clear hw
    simp[Leaves,settle,results,Tryz.results107,go_sem,d0,d1,d2,d3,e0]
    exact zFV HR.out HO5.out
end
section
open Go.Proofs.Tryz
set_option maxHeartbeats 3200000
set_option maxRecDepth 100000
open Go.RowKit Go.Deep

def zAg(s:ByteArray):Int:=match zAE s with|none=>0|some nd=>nd.1
def zB3(s:ByteArray)(w:World)(e:Ending)(w':World):Prop:=e=.returned (.int .i64 (zAg s))∧Only [] w w'
theorem zHS{s:ByteArray}{k:Int}{w w':World}(h:zAg s=k)(ho:Only [] w w'):zB3 s w (.returned (.int .i64 k)) w':=by subst h;exact⟨rfl,ho⟩

theorem zBi(w:World)(s:ByteArray)(hs:s.size<=maxLen):Calls prog 51 #[.string s] w (zB3 s w):=by
 have HP:=zAA (zES w s hs)
 cases hp:zAE s with
 | none =>
  rw[hp]at HP
  have HV:=zAA (show zAg s=0 by unfold zAg;rw[hp])
  clear hp
  go_enter func51,ntmps51
  go_wp2_with (go_at_call 107;refine HP.out.mono ?_;rintro e w1 ⟨rfl,ho⟩;unfold nd0;have HO:=zAA ho;clear ho)
  go_ret
  exact zHS HV.out (HO.out.alloc _)
 | some nd =>
  obtain⟨k,n,bs,parts⟩:=nd
  rw[hp]at HP
  have HV:=zAA (show zAg s=k by unfold zAg;rw[hp])
  clear hp
  go_enter func51,ntmps51
  go_wp2_with (go_at_call 107;refine HP.out.mono ?_;rintro e w1 ⟨bv,pv,rfl,ho,hb,hp⟩;obtain⟨A,cap,rfl,_,_⟩:=(hb [] (by simp)).formb;obtain⟨A2,cap2,rfl,_,_⟩:=(hp [] (by simp)).form;have HO:=zAA ho;clear ho hb hp)
  go_ret
  exact zHS HV.out (HO.out.alloc _)
end
section
open Go.Proofs.Tryz
set_option maxHeartbeats 3200000
set_option maxRecDepth 100000
open Go.RowKit Go.Deep

def PairIs(w:World)(g c:Nat)(s1 s2:ByteArray)(lo re:Int)(beg:Bool)(made sent:Int):Prop :=
 Blk w g 118 #[.string s1,.string s2,.int .u32 lo,.int .u32 re,.bool beg,.int .i64 made,.int .u64 sent,.pointer (some ⟨c,0,none⟩)]
theorem PairIs.only{S:List Nat}{w w':World}{g c:Nat}{s1 s2:ByteArray}{lo re:Int}{beg:Bool}{made sent:Int}(h:PairIs w g c s1 s2 lo re beg made sent)(ho:Only S w w')(hg:g∉S):PairIs w' g c s1 s2 lo re beg made sent:=Blk.only h ho hg
def zDP:Array Value:=(List.replicate 32 (Value.int .u64 0)++[Value.int .u64 0,Value.bool false]).toArray
def zFW(s1 s2:ByteArray)(lo re:Int)(beg:Bool)(made:Int)(w:World)(e:Ending)(w':World):Prop :=
 ∃g c,e=.returned (.tuple #[.pointer (some ⟨g,0,none⟩),.int .i64 0])∧w.heap.size<=g∧w.heap.size<=c∧g≠c∧PairIs w' g c s1 s2 lo re beg made 0∧Blk w' c 165 zDP∧Only [] w w'
theorem zLj{s1 s2:ByteArray}{lo re:Int}{beg:Bool}{made:Int}{w w':World}{g c:Nat}(h1:w.heap.size<=g)(h2:w.heap.size<=c)(h3:g≠c)(h4:PairIs w' g c s1 s2 lo re beg made 0)(h5:Blk w' c 165 zDP)(h6:Only [] w w') :
  zFW s1 s2 lo re beg made w (.returned (.tuple #[.pointer (some ⟨g,0,none⟩),.int .i64 0])) w':=⟨g,c,rfl,h1,h2,h3,h4,h5,h6⟩

def zAc(t:Int):Bool:=decide (0<=t)&&decide (t<=1125899906842624)
theorem zAx(t:Int)(w:World):Calls prog 69 #[.int .i64 t] w fun e w'=>e=.returned (.bool (zAc t))∧w=w':=by
 go_enter func69,ntmps69
 go_wp2
 all_goals
  go_ret
  exact⟨by first|(simp_all[zAc];done)|(simp_all[zAc];omega),rfl⟩

theorem zH1(w:World):Calls prog 70 #[] w fun e w'=>e=.returned (.pointer (some ⟨w.heap.size,0,none⟩))∧w'=w.alloc (.cells zDP 165):=by
 go_enter func70,ntmps70
 go_wp2
 go_ret
 exact⟨rfl,rfl⟩

theorem zEE(w:World)(s1 s2:ByteArray)(lo re:Int)(beg:Bool)(made:Int)(h1:s1.size<=maxLen)(h2:s2.size<=maxLen)(hk1:zAg s1≠0)(hk2:zAg s2≠0)(hm:0<=made)(hm2:made<=1125899906842624) :
  Calls prog 26 #[.agg #[.string s1,.string s2],.int .u32 lo,.int .u32 re,.bool beg,.int .i64 made] w (zFW s1 s2 lo re beg made w):=by
 have HK1:=zAA (fun W=>zBi W s1 h1)
 have HK2:=zAA (fun W=>zBi W s2 h2)
 have t1:(zAg s1==0)=false:=by simpa using hk1
 have t2:(zAg s2==0)=false:=by simpa using hk2
 have htm:zAc made=true:=by unfold zAc;rw[decide_eq_true hm,decide_eq_true hm2];rfl
 have HTM:=zAA htm
 have HB:=zAA (Blk.new w 43 #[.string s1,.string s2])
 have HO:=zAA ((Only.refl [] w).alloc (.cells #[.string s1,.string s2] 43))
 have k0:=HB.out.cell 0
 have k1:=HB.out.cell 1
 simp at k0 k1
 clear hk1 hk2 h1 h2 htm
 unfold zB3 at HK1 HK2
 generalize zAg s1=a1 at *
 generalize zAg s2=a2 at *
 go_enter func26,ntmps26
 go_wp2_with (first
  | (go_at_call 51;(with_reducible refine(HK1.out _).mono ?_);rintro e w1 ⟨rfl,ho⟩;have HO1:=zAA (HO.out.trans ho);have HB1:=zAA (HB.out.only ho (by simp));clear k0 k1;have k0:=HB1.out.cell 0;have k1:=HB1.out.cell 1;simp at k0 k1;clear ho)
  | (go_at_call 51;(with_reducible refine(HK2.out _).mono ?_);rintro e w2 ⟨rfl,ho⟩;have HO2:=zAA (HO1.out.trans ho);have HB2:=zAA (HB1.out.only ho (by simp));clear k0 k1;have k0:=HB2.out.cell 0;have k1:=HB2.out.cell 1;simp at k0 k1;clear ho)
  | (go_at_call 69;refine(zAx _ _).mono ?_;rintro e w' ⟨rfl,rfl⟩;rw[HTM.out]))
 go_region_held3 (fun w'=>w'.cell? ⟨w.heap.size,0,none⟩=some (.string s1)∧w'.cell? ⟨w.heap.size,1,none⟩=some (.string s2)) (first|exact⟨k0,k1⟩|exact⟨j0,j1⟩)
  (first|(go_at_call 70;refine(zH1 _).mono ?_;rintro e w3 ⟨rfl,hw3⟩;have HB3:=zAA (show Blk w3 w.heap.size 43 #[.string s1,.string s2]by rw[hw3];exact HB2.out.drew.alloc _);have HW3:=zAA (show Blk w3 w2.heap.size 165 zDP by rw[hw3];exact Blk.new w2.drew _ _);have HO3:=zAA (show Only [] w w3 by rw[hw3];exact HO2.out.drew.alloc _);clear k0 k1 hw3;have k0:=HB3.out.cell 0;have k1:=HB3.out.cell 1;have j0:=(HB3.out.alloc (.cells #[.string s1,.string s2,.int .u32 lo,.int .u32 re,.bool beg,.int .i64 made,.int .u64 0,.pointer (some ⟨w2.heap.size,0,none⟩)] 118)).cell 0;have j1:=(HB3.out.alloc (.cells #[.string s1,.string s2,.int .u32 lo,.int .u32 re,.bool beg,.int .i64 made,.int .u64 0,.pointer (some ⟨w2.heap.size,0,none⟩)] 118)).cell 1;simp at k0 k1 j0 j1))
 all_goals
  go_wp2_with fail
  go_ret2
  exact zLj (HO3.out.size) (HO2.out.size) (by have:=HW3.out.lt;omega) (Blk.new w3 _ _) (HW3.out.alloc _) (HO3.out.alloc _)
end
section
open Go.Proofs.Tryz
open Go.RowKit

def zAy(ws:List Nat)(top:Nat)(sm:Bool):List Value:=ws.map (fun(n:Nat)=>Value.int .u64 (n:Int))++[.int .u64 (top:Int),.bool sm]

def zIy(w:World)(b:Nat)(ws:List Nat)(top:Nat)(sm:Bool):Prop :=
 Blk w b 165 (zAy ws top sm).toArray∧ws.length=32∧(∀x∈ws,x<18446744073709551616)∧top<18446744073709551616

theorem zFX{w:World}{b:Nat}{ws:List Nat}{top:Nat}{sm:Bool}(h:zIy w b ws top sm){i:Nat}(hi:i<32):w.cell? ⟨b,i,none⟩=some (.int .u64 (ws.getD i 0:Nat)):=by
 rw[h.1.cell]
 have hi':i<ws.length:=by rw[h.2.1];exact hi
 simp[zAy,List.getElem?_append_left,hi',List.getD_eq_getElem?_getD]
theorem zLk{w:World}{b:Nat}{ws:List Nat}{top:Nat}{sm:Bool}(h:zIy w b ws top sm):w.cell? ⟨b,32,none⟩=some (.int .u64 (top:Int)):=by
 rw[h.1.cell]
 simp[zAy,List.getElem?_append_right,h.2.1]
theorem zKX{w:World}{b:Nat}{ws:List Nat}{top:Nat}{sm:Bool}(h:zIy w b ws top sm):w.cell? ⟨b,33,none⟩=some (.bool sm):=by
 rw[h.1.cell]
 simp[zAy,List.getElem?_append_right,h.2.1]

def zIz(ws:List Nat)(i:Nat):Bool:=(ws.getD (i / 64) 0).testBit (i % 64)

theorem zGj(x k:Nat)(hx:x<18446744073709551616):(bits .and .u64 ((x:Int) / 2 ^ k) 1==1)=x.testBit k:=by
 have e1:(x:Int) / 2 ^ k=((x / 2 ^ k:Nat):Int):=by push_cast;rfl
 have hlt:x / 2 ^ k<18446744073709551616:=Nat.lt_of_le_of_lt (Nat.div_le_self _ _) hx
 have e2:=u64_and_nat (x / 2 ^ k) 1 hlt (by omega)
 rw[e1,show(1:Int)=((1:Nat):Int)by rfl,e2,Nat.testBit_eq_decide_div_mod_eq,Nat.and_one_is_mod]
 rw[Bool.eq_iff_iff]
 simp
 omega

theorem zLl(w:World)(b:Nat)(ws:List Nat)(top:Nat)(sm:Bool)(c:Nat)(hw:zIy w b ws top sm)(hc:c<18446744073709551616) :
  Calls prog 116 #[.pointer (some ⟨b,0,none⟩),.int .u64 c] w fun e w'=>e=.returned (.bool (zIz ws (c % 2048)))∧w=w':=by
 have hi:c % 2048 / 64<32:=by omega
 have hcell:=zFX hw hi
 unfold zIz
 have hxl:ws.getD (c % 2048 / 64) 0<18446744073709551616:=by
  rw[List.getD_eq_getElem?_getD,List.getElem?_eq_getElem (by rw[hw.2.1];exact hi)]
  exact hw.2.2.1 _ (List.getElem_mem _)
 generalize ws.getD (c % 2048 / 64) 0=x at hcell hxl
 have hi':(c:Int) % 2048 / 64<32:=by omega
 have HX:=zAA hxl
 clear hw hxl
 go_enter func116,ntmps116
 go_wp2_with fail
 go_ret
 refine⟨?_,rfl⟩
 have h:=zGj x (c % 64) HX.out
 have e:c % 2048 % 64=c % 64:=by omega
 rw[e,<-h]
 rfl

def WinIs(w:World)(b:Nat)(B:Nat->Bool)(top:Nat)(sm:Bool):Prop:=∃ws,zIy w b ws top sm∧∀i,i<2048->zIz ws i=B i

theorem WinIs.only{S:List Nat}{w w':World}{b top:Nat}{B:Nat->Bool}{sm:Bool}(h:WinIs w b B top sm)(ho:Only S w w')(hb:b∉S):WinIs w' b B top sm:=by
 obtain⟨ws,h,hB⟩:=h
 exact⟨ws,⟨h.1.only ho hb,h.2⟩,hB⟩
theorem WinIs.lt{w:World}{b top:Nat}{B:Nat->Bool}{sm:Bool}(h:WinIs w b B top sm):b<w.heap.size:=by
 obtain⟨ws,h,_⟩:=h
 exact h.1.lt
theorem WinIs.ext{w:World}{b top:Nat}{B B':Nat->Bool}{sm:Bool}(h:WinIs w b B top sm)(hB:∀i,i<2048->B i=B' i):WinIs w b B' top sm:=by
 obtain⟨ws,h,h2⟩:=h
 exact⟨ws,h,fun i hi=>(h2 i hi).trans (hB i hi)⟩

theorem zET(ws:List Nat)(top:Nat)(sm:Bool)(i v:Nat)(h:i<ws.length):(zAy ws top sm).toArray.setIfInBounds i (.int .u64 (v:Int))=(zAy (ws.set i v) top sm).toArray:=by
 simp[zAy,List.set_append_left _ _ (show i<(ws.map fun(n:Nat)=>Value.int .u64 (n:Int)).length by simpa using h),List.map_set]

theorem zCU(k:Nat)(h:k<64):2 ^ k<18446744073709551616:=by
 have:2 ^ k<=2 ^ 63:=Nat.pow_le_pow_right (by omega) (by omega)
 omega
theorem zD8(k:Nat)(h:k<64):IntKind.u64.wrap (2 ^ k)=((2 ^ k:Nat):Int):=by
 have h1:=zCU k h
 have e:((2:Int) ^ k)=((2 ^ k:Nat):Int):=by push_cast;rfl
 rw[e,IntKind.wrap_u64]
 generalize 2 ^ k=p at h1
 omega

theorem zD9(ws:List Nat)(i j v:Nat)(h:i<ws.length):(ws.set i v).getD j 0=if i=j then v else ws.getD j 0:=by
 by_cases hij:i=j
 ·subst hij;simp[List.getD_eq_getElem?_getD,h]
 ·simp[List.getD_eq_getElem?_getD,hij]

theorem zLm(ws:List Nat)(q i x:Nat)(hx:ws.getD (q / 64) 0=x)(h:q / 64<ws.length):zIz (ws.set (q / 64) (x ||| 2 ^ (q % 64))) i=(decide (i=q) || zIz ws i):=by
 unfold zIz
 rw[zD9 _ _ _ _ h]
 by_cases h1:q / 64=i / 64
 ·rw[if_pos h1,Nat.testBit_or,Nat.testBit_two_pow,<-h1,hx,Bool.or_comm]
  congr 1
  rw[decide_eq_decide]
  omega
 ·rw[if_neg h1,decide_eq_false (by rintro rfl;exact h1 rfl)]
  rfl
theorem zGk(ws:List Nat)(q i x:Nat)(hx:ws.getD (q / 64) 0=x)(h:q / 64<ws.length):zIz (ws.set (q / 64) (x &&& (18446744073709551615-2 ^ (q % 64)))) i=(!decide (i=q)&&zIz ws i):=by
 unfold zIz
 rw[zD9 _ _ _ _ h]
 by_cases h1:q / 64=i / 64
 ·have e:18446744073709551615-2 ^ (q % 64)=2 ^ 64-(2 ^ (q % 64)+1):=by omega
  rw[if_pos h1,Nat.testBit_and,e,Nat.testBit_two_pow_sub_succ (zCU _ (Nat.mod_lt _ (by omega))),Nat.testBit_two_pow,<-h1,hx,Bool.and_comm,decide_eq_true (Nat.mod_lt i (by omega)),Bool.true_and]
  congr 2
  rw[decide_eq_decide]
  omega
 ·rw[if_neg h1,decide_eq_false (by rintro rfl;exact h1 rfl)]
  rfl

theorem zF5(w:World)(b:Nat)(B:Nat->Bool)(top:Nat)(sm:Bool)(c:Nat)(hw:WinIs w b B top sm)(hc:c<18446744073709551616) :
  Calls prog 116 #[.pointer (some ⟨b,0,none⟩),.int .u64 c] w fun e w'=>e=.returned (.bool (B (c % 2048)))∧w=w':=by
 obtain⟨ws,hw,hB⟩:=hw
 rw[<-hB _ (Nat.mod_lt _ (by omega))]
 exact zLl w b ws top sm c hw hc

theorem zI0(w:World)(b:Nat)(B:Nat->Bool)(top:Nat)(sm:Bool)(c:Nat)(hw:WinIs w b B top sm)(hc:c<18446744073709551616) :
  Calls prog 118 #[.pointer (some ⟨b,0,none⟩),.int .u64 c] w fun e w'=>e=.returned (.tuple #[])∧WinIs w' b (fun i=>decide (i=c % 2048) || B i) top sm∧Only [b] w w':=by
 obtain⟨ws,hw,hB⟩:=hw
 have hi:c % 2048 / 64<32:=by omega
 have hcell:=zFX hw hi
 have hxl:ws.getD (c % 2048 / 64) 0<18446744073709551616:=by
  rw[List.getD_eq_getElem?_getD,List.getElem?_eq_getElem (by rw[hw.2.1];exact hi)]
  exact hw.2.2.1 _ (List.getElem_mem _)
 have HW:=zAA hw
 have HB:=zAA hB
 have hfz:=hw.1.frozen
 generalize hx:ws.getD (c % 2048 / 64) 0=x at hcell hxl
 have hi':(c:Int) % 2048 / 64<32:=by omega
 have HX:=zAA hxl
 have HXE:=zAA hx
 clear hw hxl hx hB
 go_enter func118,ntmps118
 go_wp2_with fail
 go_region
 go_wp2_with fail
 go_end0
 rw[zD8 (c % 64) (Nat.mod_lt _ (by omega)),u64_or_nat x (2 ^ (c % 64)) HX.out (zCU _ (Nat.mod_lt _ (by omega)))]
 have hk:c % 64=c % 2048 % 64:=by omega
 have hv:x ||| 2 ^ (c % 64)<18446744073709551616:=by have h1:=zCU (c % 64) (Nat.mod_lt _ (by omega));exact Nat.or_lt_two_pow (n:=64) HX.out h1
 refine⟨rfl,⟨ws.set (c % 2048 / 64) (x ||| 2 ^ (c % 64)),⟨?_,by rw[List.length_set];exact HW.out.2.1,fun y hy=>?_,HW.out.2.2.2⟩,fun i hi2=>?_⟩,?_⟩
 ·have h:=(HW.out.1.set_ (c % 2048 / 64) (.int .u64 ((x ||| 2 ^ (c % 64):Nat):Int))).drew
  rw[zET ws top sm _ _ (by rw[HW.out.2.1];exact hi)]at h
  exact h
 ·rcases List.mem_or_eq_of_mem_set hy with h|h
  ·exact HW.out.2.2.1 y h
  ·rw[h];exact hv
 ·simp only[]
  rw[<-HB.out i hi2,hk,zLm ws (c % 2048) i x HXE.out (by rw[HW.out.2.1];exact hi)]
 ·exact((Only.refl _ _).setCell (.inl (by simp)) _).drew

theorem zF6(w:World)(b:Nat)(B:Nat->Bool)(top:Nat)(sm:Bool)(c:Nat)(hw:WinIs w b B top sm)(hc:c<18446744073709551616) :
  Calls prog 140 #[.pointer (some ⟨b,0,none⟩),.int .u64 c] w fun e w'=>e=.returned (.tuple #[])∧WinIs w' b (fun i=>!decide (i=c % 2048)&&B i) top sm∧Only [b] w w':=by
 obtain⟨ws,hw,hB⟩:=hw
 have hi:c % 2048 / 64<32:=by omega
 have hcell:=zFX hw hi
 have hxl:ws.getD (c % 2048 / 64) 0<18446744073709551616:=by
  rw[List.getD_eq_getElem?_getD,List.getElem?_eq_getElem (by rw[hw.2.1];exact hi)]
  exact hw.2.2.1 _ (List.getElem_mem _)
 have HW:=zAA hw
 have HB:=zAA hB
 have hfz:=hw.1.frozen
 generalize hx:ws.getD (c % 2048 / 64) 0=x at hcell hxl
 have hi':(c:Int) % 2048 / 64<32:=by omega
 have HX:=zAA hxl
 have HXE:=zAA hx
 clear hw hxl hx hB
 go_enter func140,ntmps140
 go_wp2_with fail
 go_region
 go_wp2_with fail
 go_end0
 rw[zD8 (c % 64) (Nat.mod_lt _ (by omega)),u64_andNot_nat x (2 ^ (c % 64)) HX.out (zCU _ (Nat.mod_lt _ (by omega)))]
 have hk:c % 64=c % 2048 % 64:=by omega
 have hv:x &&& (18446744073709551615-2 ^ (c % 64))<18446744073709551616:=Nat.lt_of_le_of_lt Nat.and_le_left HX.out
 refine⟨rfl,⟨ws.set (c % 2048 / 64) (x &&& (18446744073709551615-2 ^ (c % 64))),⟨?_,by rw[List.length_set];exact HW.out.2.1,fun y hy=>?_,HW.out.2.2.2⟩,fun i hi2=>?_⟩,?_⟩
 ·have h:=(HW.out.1.set_ (c % 2048 / 64) (.int .u64 ((x &&& (18446744073709551615-2 ^ (c % 64)):Nat):Int))).drew
  rw[zET ws top sm _ _ (by rw[HW.out.2.1];exact hi)]at h
  exact h
 ·rcases List.mem_or_eq_of_mem_set hy with h|h
  ·exact HW.out.2.2.1 y h
  ·rw[h];exact hv
 ·simp only[]
  rw[<-HB.out i hi2,hk,zGk ws (c % 2048) i x HXE.out (by rw[HW.out.2.1];exact hi)]
 ·exact((Only.refl _ _).setCell (.inl (by simp)) _).drew
end
section
open Go.Proofs.Tryz
open Go.RowKit Go.Deep

theorem WinIs.set_top{w:World}{b:Nat}{B:Nat->Bool}{top:Nat}{sm:Bool}(h:WinIs w b B top sm)(t:Nat)(ht:t<18446744073709551616):WinIs (w.setCell ⟨b,32,none⟩ (.int .u64 (t:Int))) b B t sm:=by
 obtain⟨ws,h,hB⟩:=h
 refine⟨ws,⟨?_,h.2.1,h.2.2.1,ht⟩,hB⟩
 have h':=h.1.set_ 32 (.int .u64 (t:Int))
 have e:(zAy ws top sm).toArray.setIfInBounds 32 (.int .u64 (t:Int))=(zAy ws t sm).toArray:=by
  simp[zAy,List.set_append_right,h.2.1]
 rw[e]at h'
 exact h'
theorem WinIs.set_some{w:World}{b:Nat}{B:Nat->Bool}{top:Nat}{sm:Bool}(h:WinIs w b B top sm)(s:Bool):WinIs (w.setCell ⟨b,33,none⟩ (.bool s)) b B top s:=by
 obtain⟨ws,h,hB⟩:=h
 refine⟨ws,⟨?_,h.2.1,h.2.2.1,h.2.2.2⟩,hB⟩
 have h':=h.1.set_ 33 (.bool s)
 have e:(zAy ws top sm).toArray.setIfInBounds 33 (.bool s)=(zAy ws top s).toArray:=by
  simp[zAy,List.set_append_right,h.2.1]
 rw[e]at h'
 exact h'
theorem WinIs.top_{w:World}{b:Nat}{B:Nat->Bool}{top:Nat}{sm:Bool}(h:WinIs w b B top sm):w.cell? ⟨b,32,none⟩=some (.int .u64 (top:Int)):=by
 obtain⟨ws,h,_⟩:=h
 exact zLk h
theorem WinIs.some_{w:World}{b:Nat}{B:Nat->Bool}{top:Nat}{sm:Bool}(h:WinIs w b B top sm):w.cell? ⟨b,33,none⟩=some (.bool sm):=by
 obtain⟨ws,h,_⟩:=h
 exact zKX h
theorem WinIs.frozen{w:World}{b:Nat}{B:Nat->Bool}{top:Nat}{sm:Bool}(h:WinIs w b B top sm):∀i,w.frozen? ⟨b,i,none⟩=false:=by
 obtain⟨ws,h,_⟩:=h
 exact h.1.frozen
theorem zFY(ws:List Nat)(top:Nat)(sm:Bool)(h:ws.length=32):(zAy ws top sm).length=34:=by simp[zAy,h]
theorem WinIs.isSome{w:World}{b:Nat}{B:Nat->Bool}{top:Nat}{sm:Bool}(h:WinIs w b B top sm)(j:Nat)(hj:j<34):(w.cell? ⟨b,j,none⟩).isSome=true:=by
 obtain⟨ws,h,_⟩:=h
 rw[h.1.cell]
 have:=zFY ws top sm h.2.1
 simp[this,hj]
theorem WinIs.drew{w:World}{b:Nat}{B:Nat->Bool}{top:Nat}{sm:Bool}(h:WinIs w b B top sm):WinIs w.drew b B top sm:=h

def zCB(B:Nat->Bool)(top:Nat)(sm:Bool)(c:Nat):Int :=
 if 18446744073709543423<=c then 10 else if sm=false∨top<c then 0 else if 2048<=top-c∨B (c % 2048)=true then 9 else 0

theorem zI1(w:World)(b:Nat)(B:Nat->Bool)(top:Nat)(sm:Bool)(c:Nat)(hw:WinIs w b B top sm)(hc:c<18446744073709551616) :
  Calls prog 74 #[.pointer (some ⟨b,0,none⟩),.int .u64 c] w fun e w'=>e=.returned (.int .i64 (zCB B top sm c))∧w=w':=by
 have h1:=hw.top_
 have h2:=hw.some_
 have ht:top<18446744073709551616:=by obtain⟨ws,h,_⟩:=hw;exact h.2.2.2
 have HW:=zAA hw
 clear hw
 by_cases k1:18446744073709543423<=c
 ·have e:zCB B top sm c=10:=by unfold zCB;rw[if_pos k1]
  rw[e]
  clear e
  have k1':decide ((18446744073709543423:Int)<=c)=true:=by rw[decide_eq_true_iff];omega
  clear k1
  go_enter func74,ntmps74
  go_wp2_with fail
  go_ret
  exact⟨rfl,rfl⟩
 have k1':decide ((18446744073709543423:Int)<=c)=false:=by rw[decide_eq_false_iff_not];omega
 cases sm with
 | false =>
  have e:zCB B top false c=0:=by unfold zCB;rw[if_neg k1,if_pos (.inl rfl)]
  rw[e]
  clear e k1
  go_enter func74,ntmps74
  go_wp2_with fail
  go_ret
  exact⟨rfl,rfl⟩
 | true =>
  by_cases k2:top<c
  ·have e:zCB B top true c=0:=by unfold zCB;rw[if_neg k1,if_pos (.inr k2)]
   rw[e]
   clear e k1
   have k2':(top:Int)<c:=by omega
   go_enter func74,ntmps74
   go_wp2_with fail
   go_ret
   exact⟨rfl,rfl⟩
  have k2':¬(top:Int)<c:=by omega
  have k2'':(c:Int)<=top:=by omega
  by_cases k3:2048<=top-c
  ·have e:zCB B top true c=9:=by unfold zCB;rw[if_neg k1,if_neg (by simp[k2]),if_pos (.inl k3)]
   rw[e]
   clear e k1 k2
   have k3':(2048:Int)<=top-c:=by omega
   go_enter func74,ntmps74
   go_wp2_with fail
   go_ret
   exact⟨rfl,rfl⟩
  have k3':¬(2048:Int)<=top-c:=by omega
  cases hB:B (c % 2048)with
  | true =>
   have e:zCB B top true c=9:=by unfold zCB;rw[if_neg k1,if_neg (by simp[k2]),if_pos (.inr hB)]
   rw[e]
   have HBB:=zAA hB
   clear e k1 k2 k3 hB
   go_enter func74,ntmps74
   go_wp2_with (go_at_call 116;refine(zF5 _ b B top true c HW.out hc).mono ?_;rw[HBB.out];rintro e w' ⟨rfl,rfl⟩)
   go_ret
   exact⟨rfl,rfl⟩
  | false =>
   have e:zCB B top true c=0:=by unfold zCB;rw[if_neg k1,if_neg (by simp[k2]),if_neg (by simp[hB];omega)]
   rw[e]
   have HBB:=zAA hB
   clear e k1 k2 k3 hB
   go_enter func74,ntmps74
   go_wp2_with (go_at_call 116;refine(zF5 _ b B top true c HW.out hc).mono ?_;rw[HBB.out];rintro e w' ⟨rfl,rfl⟩)
   go_ret
   exact⟨rfl,rfl⟩
end
end Go.Proofs.YtfipdjlalfpbnaaGreatDoor
