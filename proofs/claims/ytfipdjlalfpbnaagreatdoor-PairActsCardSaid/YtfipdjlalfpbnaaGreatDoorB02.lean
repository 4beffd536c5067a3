/-
  Walks and plain words (texts Pa2). No condition beyond those that each theorem states.
-/
import Derived.Test.YtfipdjlalfpbnaaGreatDoorB01
namespace Go.Proofs.YtfipdjlalfpbnaaGreatDoor
section
open Go.Proofs.Tryz
set_option maxHeartbeats 12800000
set_option maxRecDepth 100000
open Go.RowKit Go.Deep

theorem zMG(w:World)(g c:Nat)(s1 s2:ByteArray)(lo re:Nat)(beg:Bool)(made:Int)(n:Nat)(h:PairIs w g c s1 s2 lo re beg made n)(now:Int)(h1:0<=made)(h2:made<=1125899906842624)(A:Option Addr)(cap:Nat)(b:List UInt8)(ht:zAc now=true)(ho:¬180000<=zBn made now)(hn:¬18446744073709543423<=n)(hb:¬2000<b.length)(hs1:s1.size<=maxLen)(hrd:Rd w [] (.slice A b.length cap) (zBR .u8 (zBo b)))(htab:Tab w)(hre:re<4294967296):Calls prog 29 #[.pointer (some ⟨g,0,none⟩),.int .i64 now,.slice A b.length cap] w (zBY g c s1 s2 lo re beg made (zAv re made n s1 now b) w):=by
 have HV:=zAA (show zAv re made n s1 now b=if zAG (zBy re n s1 b)=true then (zBy re n s1 b,0,n+1)else (zDo,5,n)by unfold zAv;rw[if_neg (by rw[ht];decide),if_neg (fun h=>h.elim ho hn),if_neg hb])
 have HT:=zAA (fun W=>zAx now W)
 have HOL:=zAA (fun(ht:zAc now=true) W (hw:PairIs W g c s1 s2 lo re beg made n)=>zBT W g c s1 s2 lo re beg made n hw now h1 h2 ((zAT now).1 ht).1 ((zAT now).1 ht).2)
 have HR:=zAA ((Blk.new w 25 #[.int .i64 0,.int .u32 0,.int .u32 0,.int .u64 0,.string ⟨#[]⟩,.string ⟨#[]⟩,.string ⟨#[]⟩,.string ⟨#[]⟩,.string ⟨#[]⟩,.string ⟨#[]⟩,.string ⟨#[]⟩,.string ⟨#[]⟩,.string ⟨#[]⟩]))
 have HO:=zAA ((Only.refl [] w).alloc (.cells #[.int .i64 0,.int .u32 0,.int .u32 0,.int .u64 0,.string ⟨#[]⟩,.string ⟨#[]⟩,.string ⟨#[]⟩,.string ⟨#[]⟩,.string ⟨#[]⟩,.string ⟨#[]⟩,.string ⟨#[]⟩,.string ⟨#[]⟩,.string ⟨#[]⟩] 25))
 have H:=zAA (PairIs.only h HO.out (by simp))
 rw[ht]at HT
 replace HOL:=zAA (HOL.out ht)
 rw[decide_eq_false ho]at HOL
 have h3:decide ((18446744073709543423:Int)<=n)=false:=by rw[decide_eq_false_iff_not];omega
 have h4:¬(2000:Int)<b.length:=by omega
 have HNW:=zAA (show n<18446744073709551616 by omega)
 have HRE:=zAA hre
 have HNX:=zAA (show n+1<18446744073709551616 by omega)
 have HPS:=zAA (show ∀p∈[s1,zAS 4 0 b [],⟨#[48]⟩],p.size<=maxLen by
  intro p hp
  simp at hp
  rcases hp with rfl|rfl|rfl
  ·exact hs1
  ·exact zD5 _ _ _ _ (by omega)
  ·unfold maxLen;show 1<=_;omega)
 have HTB:=zAA (htab.only HO.out (by simp))
 have HB:=zAA (hrd.only HO.out (by simp))
 clear ht ho hn hb hrd htab hs1 hre
 generalize hbl:b.length=nb at *
 clear hbl
 have HGN:=zAA (show g≠w.heap.size by have:=Blk.lt h;omega)
 clear h h1 h2
 go_enter func29,ntmps29
 go_upto_region 1 with fail
 generalize (w.alloc (.cells #[.int .i64 0,.int .u32 0,.int .u32 0,.int .u64 0,.string ⟨#[]⟩,.string ⟨#[]⟩,.string ⟨#[]⟩,.string ⟨#[]⟩,.string ⟨#[]⟩,.string ⟨#[]⟩,.string ⟨#[]⟩,.string ⟨#[]⟩,.string ⟨#[]⟩] 25))=v0 at *
 have c0:=H.out.cell 0;have c1:=H.out.cell 1;have c2:=H.out.cell 2;have c3:=H.out.cell 3;have c4:=H.out.cell 4;have c5:=H.out.cell 5;have c6:=H.out.cell 6;have c7:=H.out.cell 7;simp at c0 c1 c2 c3 c4 c5 c6 c7
 have cf:=H.out.frozen
 have r0:=HR.out.cell 0;have r1:=HR.out.cell 1;have r2:=HR.out.cell 2;have r3:=HR.out.cell 3;have r4:=HR.out.cell 4;have r5:=HR.out.cell 5;have r6:=HR.out.cell 6;have r7:=HR.out.cell 7;have r8:=HR.out.cell 8;have r9:=HR.out.cell 9;have r10:=HR.out.cell 10;have r11:=HR.out.cell 11;have r12:=HR.out.cell 12;simp at r0 r1 r2 r3 r4 r5 r6 r7 r8 r9 r10 r11 r12
 have rf:=HR.out.frozen
 go_upto_region 9 with (first|(go_at_call 69;refine(HT.out _).mono ?_;rintro e wz ⟨rfl,rfl⟩)|(go_at_call 71;refine(HOL.out _ H.out).mono ?_;rintro e wz ⟨rfl,rfl⟩))
 go_cut [8] (fun pv w'=>∃m,pv=.pointer (some ⟨m,0,none⟩)∧v0.heap.size<=m∧Hid (Blk w' m 25 #[.int .i64 4,.int .u32 0,.int .u32 (re:Nat),.int .u64 (n:Nat),.string ⟨#[]⟩,.string ⟨#[]⟩,.string ⟨#[]⟩,.string ⟨#[]⟩,.string ⟨#[]⟩,.string ⟨#[]⟩,.string (zAS 10 n [] [s1,zAS 4 0 b [],⟨#[48]⟩]),.string ⟨#[]⟩,.string ⟨#[]⟩])∧Hid (Only [] v0 w'))
 case first =>
  rename_i JJ KK hJJ hKK
  refine wp_region_held_drew (S:=fun W=>Only [] v0 W) (by kernel_rfl) (by exact(Only.refl [] v0).drew) (fun hHeld=>?_)
  generalize v0.drew=wd9 at *
  refine wpAnyH_take (i:=0) (v:=?_) rfl (by kernel_rfl) (by kernel_rfl) (by kernel_rfl) (fun _ _ _ h=>h) (Or.inl ⟨by rfl,?_⟩) (by assumption) ?_
  rotate_left
  ·(intro w hSw;(try dsimp only at hSw);go_simp;try with_reducible rfl)
  try simp only[List.getElem_toArray,List.getElem_cons_succ,List.getElem_cons_zero,Act.put,List.setIfInBounds_toArray,List.set_cons_zero,List.set_cons_succ]
  refine wpAnyH_take (i:=1) (v:=?_) rfl (by kernel_rfl) (by kernel_rfl) (by kernel_rfl) (fun _ _ _ h=>h) (Or.inl ⟨by rfl,?_⟩) (by assumption) ?_
  rotate_left
  ·(intro w hSw;(try dsimp only at hSw);go_simp;try with_reducible rfl)
  try simp only[List.getElem_toArray,List.getElem_cons_succ,List.getElem_cons_zero,Act.put,List.setIfInBounds_toArray,List.set_cons_zero,List.set_cons_succ]
  refine wpAnyH_take (i:=2) (v:=?_) rfl (by kernel_rfl) (by kernel_rfl) (by kernel_rfl) (fun _ _ _ h=>h) (Or.inl ⟨by rfl,?_⟩) (by assumption) ?_
  rotate_left
  ·(intro w hSw;(try dsimp only at hSw);go_simp;try with_reducible rfl)
  try simp only[List.getElem_toArray,List.getElem_cons_succ,List.getElem_cons_zero,Act.put,List.setIfInBounds_toArray,List.set_cons_zero,List.set_cons_succ]
  refine wpAnyH_take (i:=3) (v:=?_) rfl (by kernel_rfl) (by kernel_rfl) (by kernel_rfl) (fun _ _ _ h=>h) (Or.inl ⟨by rfl,?_⟩) (by assumption) ?_
  rotate_left
  ·(intro w hSw;(try dsimp only at hSw);have HMw:=PairIs.only H.out hSw (by simp);have c3:=Blk.cell HMw 3;simp at c3;clear HMw;go_simp;try with_reducible rfl)
  try simp only[List.getElem_toArray,List.getElem_cons_succ,List.getElem_cons_zero,Act.put,List.setIfInBounds_toArray,List.set_cons_zero,List.set_cons_succ]
  refine wpAnyH_take (i:=4) (v:=?_) rfl (by kernel_rfl) (by kernel_rfl) (by kernel_rfl) (fun _ _ _ h=>h) (Or.inl ⟨by rfl,?_⟩) (by assumption) ?_
  rotate_left
  ·(intro w hSw;(try dsimp only at hSw);go_simp;try with_reducible rfl)
  try simp only[List.getElem_toArray,List.getElem_cons_succ,List.getElem_cons_zero,Act.put,List.setIfInBounds_toArray,List.set_cons_zero,List.set_cons_succ]
  refine wpAnyH_take (i:=5) (v:=?_) rfl (by kernel_rfl) (by kernel_rfl) (by kernel_rfl) (fun _ _ _ h=>h) (Or.inl ⟨by rfl,?_⟩) (by assumption) ?_
  rotate_left
  ·(intro w hSw;(try dsimp only at hSw);go_simp;try with_reducible rfl)
  try simp only[List.getElem_toArray,List.getElem_cons_succ,List.getElem_cons_zero,Act.put,List.setIfInBounds_toArray,List.set_cons_zero,List.set_cons_succ]
  refine wpAnyH_take (i:=6) (v:=?_) rfl (by kernel_rfl) (by kernel_rfl) (by kernel_rfl) (fun _ _ _ h=>h) (Or.inl ⟨by rfl,?_⟩) (by assumption) ?_
  rotate_left
  ·(intro w hSw;(try dsimp only at hSw);go_simp;try with_reducible rfl)
  try simp only[List.getElem_toArray,List.getElem_cons_succ,List.getElem_cons_zero,Act.put,List.setIfInBounds_toArray,List.set_cons_zero,List.set_cons_succ]
  refine wpAnyH_take (i:=7) (v:=?_) rfl (by kernel_rfl) (by kernel_rfl) (by kernel_rfl) (fun _ _ _ h=>h) (Or.inl ⟨by rfl,?_⟩) (by assumption) ?_
  rotate_left
  ·(intro w hSw;(try dsimp only at hSw);have HMw:=PairIs.only H.out hSw (by simp);have c6:=Blk.cell HMw 6;simp at c6;clear HMw;go_simp;try with_reducible rfl)
  try simp only[List.getElem_toArray,List.getElem_cons_succ,List.getElem_cons_zero,Act.put,List.setIfInBounds_toArray,List.set_cons_zero,List.set_cons_succ]
  refine wpAnyH_take (i:=8) (v:=?_) rfl (by kernel_rfl) (by kernel_rfl) (by kernel_rfl) (fun _ _ _ h=>h) (Or.inl ⟨by rfl,?_⟩) (by assumption) ?_
  rotate_left
  ·(intro w hSw;(try dsimp only at hSw);go_simp;try with_reducible rfl)
  try simp only[List.getElem_toArray,List.getElem_cons_succ,List.getElem_cons_zero,Act.put,List.setIfInBounds_toArray,List.set_cons_zero,List.set_cons_succ]
  refine wpAnyH_take (i:=9) (v:=?_) rfl (by kernel_rfl) (by kernel_rfl) (by kernel_rfl) (fun _ _ _ h=>h) (Or.inl ⟨by rfl,?_⟩) (by assumption) ?_
  rotate_left
  ·(intro w hSw;(try dsimp only at hSw);go_simp;try with_reducible rfl)
  try simp only[List.getElem_toArray,List.getElem_cons_succ,List.getElem_cons_zero,Act.put,List.setIfInBounds_toArray,List.set_cons_zero,List.set_cons_succ]
  refine wpAnyH_take (i:=10) (v:=?_) rfl (by kernel_rfl) (by kernel_rfl) (by kernel_rfl) (fun _ _ _ h=>h) (Or.inl ⟨by rfl,?_⟩) (by assumption) ?_
  rotate_left
  ·(intro w hSw;(try dsimp only at hSw);go_simp;try with_reducible rfl)
  try simp only[List.getElem_toArray,List.getElem_cons_succ,List.getElem_cons_zero,Act.put,List.setIfInBounds_toArray,List.set_cons_zero,List.set_cons_succ]
  refine wpAnyH_take (i:=11) (v:=?_) rfl (by kernel_rfl) (by kernel_rfl) (by kernel_rfl) (fun _ _ _ h=>h) (Or.inl ⟨by rfl,?_⟩) (by assumption) ?_
  rotate_left
  ·(intro w hSw;(try dsimp only at hSw);have HMw:=PairIs.only H.out hSw (by simp);have c6:=Blk.cell HMw 6;simp at c6;clear HMw;go_simp;try with_reducible rfl)
  try simp only[List.getElem_toArray,List.getElem_cons_succ,List.getElem_cons_zero,Act.put,List.setIfInBounds_toArray,List.set_cons_zero,List.set_cons_succ]
  refine wpAnyH_take (i:=12) (v:=?_) rfl (by kernel_rfl) (by kernel_rfl) (by kernel_rfl) (fun _ _ _ h=>h) (Or.inl ⟨by rfl,?_⟩) (by assumption) ?_
  rotate_left
  ·(intro w hSw;(try dsimp only at hSw);go_simp;try with_reducible rfl)
  try simp only[List.getElem_toArray,List.getElem_cons_succ,List.getElem_cons_zero,Act.put,List.setIfInBounds_toArray,List.set_cons_zero,List.set_cons_succ]
  refine wpAnyH_take (i:=13) (v:=?_) rfl (by kernel_rfl) (by kernel_rfl) (by kernel_rfl) (fun _ _ _ h=>h) (Or.inl ⟨by rfl,?_⟩) (by assumption) ?_
  rotate_left
  ·(intro w hSw;(try dsimp only at hSw);go_simp;try with_reducible rfl)
  try simp only[List.getElem_toArray,List.getElem_cons_succ,List.getElem_cons_zero,Act.put,List.setIfInBounds_toArray,List.set_cons_zero,List.set_cons_succ]
  refine wpAnyH_take (i:=14) (v:=?_) rfl (by kernel_rfl) (by kernel_rfl) (by kernel_rfl) (fun _ _ _ h=>h) (Or.inl ⟨by rfl,?_⟩) (by assumption) ?_
  rotate_left
  ·(intro w hSw;(try dsimp only at hSw);go_simp;try with_reducible rfl)
  try simp only[List.getElem_toArray,List.getElem_cons_succ,List.getElem_cons_zero,Act.put,List.setIfInBounds_toArray,List.set_cons_zero,List.set_cons_succ]
  refine wpAnyH_take (i:=15) (v:=?_) rfl (by kernel_rfl) (by kernel_rfl) (by kernel_rfl) (fun _ _ _ h=>h) (Or.inl ⟨by rfl,?_⟩) (by assumption) ?_
  rotate_left
  ·(intro w hSw;(try dsimp only at hSw);go_simp;try with_reducible rfl)
  try simp only[List.getElem_toArray,List.getElem_cons_succ,List.getElem_cons_zero,Act.put,List.setIfInBounds_toArray,List.set_cons_zero,List.set_cons_succ]
  refine wpAnyH_take (i:=16) (v:=?_) rfl (by kernel_rfl) (by kernel_rfl) (by kernel_rfl) (fun _ _ _ h=>h) (Or.inl ⟨by rfl,?_⟩) (by assumption) ?_
  rotate_left
  ·(intro w hSw;(try dsimp only at hSw);have HMw:=PairIs.only H.out hSw (by simp);have c0:=Blk.cell HMw 0;simp at c0;clear HMw;go_simp;try with_reducible rfl)
  try simp only[List.getElem_toArray,List.getElem_cons_succ,List.getElem_cons_zero,Act.put,List.setIfInBounds_toArray,List.set_cons_zero,List.set_cons_succ]
  refine wpAnyH_take (i:=17) (v:=?_) rfl (by kernel_rfl) (by kernel_rfl) (by kernel_rfl) (fun _ _ _ h=>h) (Or.inl ⟨by rfl,?_⟩) (by assumption) ?_
  rotate_left
  ·(intro w hSw;(try dsimp only at hSw);go_simp;try with_reducible rfl)
  try simp only[List.getElem_toArray,List.getElem_cons_succ,List.getElem_cons_zero,Act.put,List.setIfInBounds_toArray,List.set_cons_zero,List.set_cons_succ]
  refine wpAnyH_ready (rs:=[18,22]) (by kernel_rfl) (by simp) ?_
  refine(AllReadyH.cons rfl (fun K hK=>?_) (AllReadyH.cons rfl (fun K hK=>?_) AllReadyH.nil))
  ·go_simp
   (go_at_call 66;refine(zDI 4 (by decide) 0 (by omega) _ _ b [] (by simp) wd9 (HB.out.only hHeld (by simp)) (Rd.nil _ _) (HTB.out.only hHeld (by simp))).mono ?_;rintro e w18 ⟨rfl,ho⟩)
   refine hK.out _ _ (by exact hHeld.trans ho) (fun hHeld=>?_)
   clear hK K ho
   try simp only[List.getElem_toArray,List.getElem_cons_succ,List.getElem_cons_zero,Act.put,List.setIfInBounds_toArray,List.set_cons_zero,List.set_cons_succ]
   refine wpAnyH_ready (rs:=[19,22]) (by kernel_rfl) (by simp) ?_
   refine(AllReadyH.cons rfl (fun K hK=>?_) (AllReadyH.cons rfl (fun K hK=>?_) AllReadyH.nil))
   ·go_simp
    refine hK.out _ _ (by exact hHeld.alloc _) (fun hHeld=>?_)
    clear hK K
    try simp only[List.getElem_toArray,List.getElem_cons_succ,List.getElem_cons_zero,Act.put,List.setIfInBounds_toArray,List.set_cons_zero,List.set_cons_succ]
    have HRD:=zAA (show Rd (w18.alloc (.cells #[.string s1,.string (zAS 4 0 b []),.string ⟨#[48]⟩] 9)) [] (.slice (some ⟨w18.heap.size,0,none⟩) 3 3) (zAq [s1,zAS 4 0 b [],⟨#[48]⟩])from zDT w18 9 [] (zAq [s1,zAS 4 0 b [],⟨#[48]⟩]) (by simp) (by unfold maxLen;show 3<=_;omega))
    generalize (w18.alloc (.cells #[.string s1,.string (zAS 4 0 b []),.string ⟨#[48]⟩] 9))=w19 at *
    refine wpAnyH_ready (rs:=[20,22]) (by kernel_rfl) (by simp) ?_
    refine(AllReadyH.cons rfl (fun K hK=>?_) (AllReadyH.cons rfl (fun K hK=>?_) AllReadyH.nil))
    ·go_simp
     (go_at_call 66;refine(zDI 10 (by decide) n HNW.out _ _ [] [s1,zAS 4 0 b [],⟨#[48]⟩] HPS.out w19 (Rd.nil _ _) HRD.out (HTB.out.only hHeld (by simp))).mono ?_;rintro e w20 ⟨rfl,ho⟩;replace HRD:=zAA (HRD.out.only ho (by simp)))
     refine hK.out _ _ (by exact hHeld.trans ho) (fun hHeld=>?_)
     clear hK K ho
     try simp only[List.getElem_toArray,List.getElem_cons_succ,List.getElem_cons_zero,Act.put,List.setIfInBounds_toArray,List.set_cons_zero,List.set_cons_succ]
     refine wpAnyH_take (i:=21) (v:=?_) rfl (by kernel_rfl) (by kernel_rfl) (by kernel_rfl) (fun _ _ _ h=>h) (Or.inl ⟨by rfl,?_⟩) (by assumption) ?_
     rotate_left
     ·(intro w hSw;(try dsimp only at hSw);go_simp;try with_reducible rfl)
     try simp only[List.getElem_toArray,List.getElem_cons_succ,List.getElem_cons_zero,Act.put,List.setIfInBounds_toArray,List.set_cons_zero,List.set_cons_succ]
     refine wpAnyH_ready (rs:=[22]) (by kernel_rfl) (by simp) ?_
     refine(AllReadyH.cons rfl (fun K hK=>?_) AllReadyH.nil)
     go_simp
     have HNS:=zAA hHeld.size
     refine hK.out _ _ (by exact hHeld.alloc _) (fun hHeld=>?_)
     clear hK K
     try simp only[List.getElem_toArray,List.getElem_cons_succ,List.getElem_cons_zero,Act.put,List.setIfInBounds_toArray,List.set_cons_zero,List.set_cons_succ]
     replace HRD:=zAA (HRD.out.only ((Only.refl [] w20).alloc (.cells #[.int .i64 0,.int .u32 0,.int .u32 0,.int .u64 0,.string ⟨#[]⟩,.string ⟨#[]⟩,.string ⟨#[]⟩,.string ⟨#[]⟩,.string ⟨#[]⟩,.string ⟨#[]⟩,.string ⟨#[]⟩,.string ⟨#[]⟩,.string ⟨#[]⟩] 25)) (by simp))
     have HNM:=zAA (Blk.new w20 25 #[.int .i64 0,.int .u32 0,.int .u32 0,.int .u64 0,.string ⟨#[]⟩,.string ⟨#[]⟩,.string ⟨#[]⟩,.string ⟨#[]⟩,.string ⟨#[]⟩,.string ⟨#[]⟩,.string ⟨#[]⟩,.string ⟨#[]⟩,.string ⟨#[]⟩])
     generalize (w20.alloc (.cells #[.int .i64 0,.int .u32 0,.int .u32 0,.int .u64 0,.string ⟨#[]⟩,.string ⟨#[]⟩,.string ⟨#[]⟩,.string ⟨#[]⟩,.string ⟨#[]⟩,.string ⟨#[]⟩,.string ⟨#[]⟩,.string ⟨#[]⟩,.string ⟨#[]⟩] 25))=w22 at *
     refine wpAnyH_ready (rs:=[23]) (by kernel_rfl) (by simp) ?_
     refine(AllReadyH.cons rfl (fun K hK=>?_) AllReadyH.nil)
     rw[if_pos (by rfl)]
     refine wp_store_mid _ _ _ rfl _ _ (List.toArray _) rfl rfl (zAM HNM.out _ rfl) (by kernel_rfl) (by simp[Value.oneCell']) ?_
     have HST:=zAA (show Blk (w22.setCells _ 0 [.int .i64 4,.int .u32 0,.int .u32 (re:Nat),.int .u64 (n:Nat),.string ⟨#[]⟩,.string ⟨#[]⟩,.string ⟨#[]⟩,.string ⟨#[]⟩,.string ⟨#[]⟩,.string ⟨#[]⟩,.string (zAS 10 n [] [s1,zAS 4 0 b [],⟨#[48]⟩]),.string ⟨#[]⟩,.string ⟨#[]⟩]) _ 25 #[.int .i64 4,.int .u32 0,.int .u32 (re:Nat),.int .u64 (n:Nat),.string ⟨#[]⟩,.string ⟨#[]⟩,.string ⟨#[]⟩,.string ⟨#[]⟩,.string ⟨#[]⟩,.string ⟨#[]⟩,.string (zAS 10 n [] [s1,zAS 4 0 b [],⟨#[48]⟩]),.string ⟨#[]⟩,.string ⟨#[]⟩]from zAJ HNM.out [.int .i64 4,.int .u32 0,.int .u32 (re:Nat),.int .u64 (n:Nat),.string ⟨#[]⟩,.string ⟨#[]⟩,.string ⟨#[]⟩,.string ⟨#[]⟩,.string ⟨#[]⟩,.string ⟨#[]⟩,.string (zAS 10 n [] [s1,zAS 4 0 b [],⟨#[48]⟩]),.string ⟨#[]⟩,.string ⟨#[]⟩] rfl)
     refine hK.out _ _ (by exact zAL hHeld HNS.out [.int .i64 4,.int .u32 0,.int .u32 (re:Nat),.int .u64 (n:Nat),.string ⟨#[]⟩,.string ⟨#[]⟩,.string ⟨#[]⟩,.string ⟨#[]⟩,.string ⟨#[]⟩,.string ⟨#[]⟩,.string (zAS 10 n [] [s1,zAS 4 0 b [],⟨#[48]⟩]),.string ⟨#[]⟩,.string ⟨#[]⟩]) (fun hHeld=>?_)
     clear hK K
     try simp only[List.getElem_toArray,List.getElem_cons_succ,List.getElem_cons_zero,Act.put,List.setIfInBounds_toArray,List.set_cons_zero,List.set_cons_succ]
     refine wpAnyH_done (by kernel_rfl) ?_ _
     dsimp only[Exit.then]
     refine hKK _ _ ?_
     go_meet
     exact⟨_,rfl,HNS.out,HST,zAA hHeld⟩
    ·go_simp
     have HNS:=zAA hHeld.size
     refine hK.out _ _ (by exact hHeld.alloc _) (fun hHeld=>?_)
     clear hK K
     try simp only[List.getElem_toArray,List.getElem_cons_succ,List.getElem_cons_zero,Act.put,List.setIfInBounds_toArray,List.set_cons_zero,List.set_cons_succ]
     replace HRD:=zAA (HRD.out.only ((Only.refl [] w19).alloc (.cells #[.int .i64 0,.int .u32 0,.int .u32 0,.int .u64 0,.string ⟨#[]⟩,.string ⟨#[]⟩,.string ⟨#[]⟩,.string ⟨#[]⟩,.string ⟨#[]⟩,.string ⟨#[]⟩,.string ⟨#[]⟩,.string ⟨#[]⟩,.string ⟨#[]⟩] 25)) (by simp))
     have HNM:=zAA (Blk.new w19 25 #[.int .i64 0,.int .u32 0,.int .u32 0,.int .u64 0,.string ⟨#[]⟩,.string ⟨#[]⟩,.string ⟨#[]⟩,.string ⟨#[]⟩,.string ⟨#[]⟩,.string ⟨#[]⟩,.string ⟨#[]⟩,.string ⟨#[]⟩,.string ⟨#[]⟩])
     generalize (w19.alloc (.cells #[.int .i64 0,.int .u32 0,.int .u32 0,.int .u64 0,.string ⟨#[]⟩,.string ⟨#[]⟩,.string ⟨#[]⟩,.string ⟨#[]⟩,.string ⟨#[]⟩,.string ⟨#[]⟩,.string ⟨#[]⟩,.string ⟨#[]⟩,.string ⟨#[]⟩] 25))=w22 at *
     refine wpAnyH_ready (rs:=[20]) (by kernel_rfl) (by simp) ?_
     refine(AllReadyH.cons rfl (fun K hK=>?_) AllReadyH.nil)
     go_simp
     (go_at_call 66;refine(zDI 10 (by decide) n HNW.out _ _ [] [s1,zAS 4 0 b [],⟨#[48]⟩] HPS.out w22 (Rd.nil _ _) HRD.out (HTB.out.only hHeld (by simp))).mono ?_;rintro e w20 ⟨rfl,ho⟩;replace HRD:=zAA (HRD.out.only ho (by simp));replace HNM:=zAA (HNM.out.only ho (by simp)))
     refine hK.out _ _ (by exact hHeld.trans ho) (fun hHeld=>?_)
     clear hK K ho
     try simp only[List.getElem_toArray,List.getElem_cons_succ,List.getElem_cons_zero,Act.put,List.setIfInBounds_toArray,List.set_cons_zero,List.set_cons_succ]
     refine wpAnyH_take (i:=21) (v:=?_) rfl (by kernel_rfl) (by kernel_rfl) (by kernel_rfl) (fun _ _ _ h=>h) (Or.inl ⟨by rfl,?_⟩) (by assumption) ?_
     rotate_left
     ·(intro w hSw;(try dsimp only at hSw);go_simp;try with_reducible rfl)
     try simp only[List.getElem_toArray,List.getElem_cons_succ,List.getElem_cons_zero,Act.put,List.setIfInBounds_toArray,List.set_cons_zero,List.set_cons_succ]
     refine wpAnyH_ready (rs:=[23]) (by kernel_rfl) (by simp) ?_
     refine(AllReadyH.cons rfl (fun K hK=>?_) AllReadyH.nil)
     rw[if_pos (by rfl)]
     refine wp_store_mid _ _ _ rfl _ _ (List.toArray _) rfl rfl (zAM HNM.out _ rfl) (by kernel_rfl) (by simp[Value.oneCell']) ?_
     have HST:=zAA (show Blk (w20.setCells _ 0 [.int .i64 4,.int .u32 0,.int .u32 (re:Nat),.int .u64 (n:Nat),.string ⟨#[]⟩,.string ⟨#[]⟩,.string ⟨#[]⟩,.string ⟨#[]⟩,.string ⟨#[]⟩,.string ⟨#[]⟩,.string (zAS 10 n [] [s1,zAS 4 0 b [],⟨#[48]⟩]),.string ⟨#[]⟩,.string ⟨#[]⟩]) _ 25 #[.int .i64 4,.int .u32 0,.int .u32 (re:Nat),.int .u64 (n:Nat),.string ⟨#[]⟩,.string ⟨#[]⟩,.string ⟨#[]⟩,.string ⟨#[]⟩,.string ⟨#[]⟩,.string ⟨#[]⟩,.string (zAS 10 n [] [s1,zAS 4 0 b [],⟨#[48]⟩]),.string ⟨#[]⟩,.string ⟨#[]⟩]from zAJ HNM.out [.int .i64 4,.int .u32 0,.int .u32 (re:Nat),.int .u64 (n:Nat),.string ⟨#[]⟩,.string ⟨#[]⟩,.string ⟨#[]⟩,.string ⟨#[]⟩,.string ⟨#[]⟩,.string ⟨#[]⟩,.string (zAS 10 n [] [s1,zAS 4 0 b [],⟨#[48]⟩]),.string ⟨#[]⟩,.string ⟨#[]⟩] rfl)
     refine hK.out _ _ (by exact zAL hHeld HNS.out [.int .i64 4,.int .u32 0,.int .u32 (re:Nat),.int .u64 (n:Nat),.string ⟨#[]⟩,.string ⟨#[]⟩,.string ⟨#[]⟩,.string ⟨#[]⟩,.string ⟨#[]⟩,.string ⟨#[]⟩,.string (zAS 10 n [] [s1,zAS 4 0 b [],⟨#[48]⟩]),.string ⟨#[]⟩,.string ⟨#[]⟩]) (fun hHeld=>?_)
     clear hK K
     try simp only[List.getElem_toArray,List.getElem_cons_succ,List.getElem_cons_zero,Act.put,List.setIfInBounds_toArray,List.set_cons_zero,List.set_cons_succ]
     refine wpAnyH_done (by kernel_rfl) ?_ _
     dsimp only[Exit.then]
     refine hKK _ _ ?_
     go_meet
     exact⟨_,rfl,HNS.out,HST,zAA hHeld⟩
   ·go_simp
    have HNS:=zAA hHeld.size
    refine hK.out _ _ (by exact hHeld.alloc _) (fun hHeld=>?_)
    clear hK K
    try simp only[List.getElem_toArray,List.getElem_cons_succ,List.getElem_cons_zero,Act.put,List.setIfInBounds_toArray,List.set_cons_zero,List.set_cons_succ]
    have HNM:=zAA (Blk.new w18 25 #[.int .i64 0,.int .u32 0,.int .u32 0,.int .u64 0,.string ⟨#[]⟩,.string ⟨#[]⟩,.string ⟨#[]⟩,.string ⟨#[]⟩,.string ⟨#[]⟩,.string ⟨#[]⟩,.string ⟨#[]⟩,.string ⟨#[]⟩,.string ⟨#[]⟩])
    generalize (w18.alloc (.cells #[.int .i64 0,.int .u32 0,.int .u32 0,.int .u64 0,.string ⟨#[]⟩,.string ⟨#[]⟩,.string ⟨#[]⟩,.string ⟨#[]⟩,.string ⟨#[]⟩,.string ⟨#[]⟩,.string ⟨#[]⟩,.string ⟨#[]⟩,.string ⟨#[]⟩] 25))=w22 at *
    refine wpAnyH_ready (rs:=[19]) (by kernel_rfl) (by simp) ?_
    refine(AllReadyH.cons rfl (fun K hK=>?_) AllReadyH.nil)
    go_simp
    refine hK.out _ _ (by exact hHeld.alloc _) (fun hHeld=>?_)
    clear hK K
    try simp only[List.getElem_toArray,List.getElem_cons_succ,List.getElem_cons_zero,Act.put,List.setIfInBounds_toArray,List.set_cons_zero,List.set_cons_succ]
    replace HNM:=zAA (HNM.out.alloc (.cells #[.string s1,.string (zAS 4 0 b []),.string ⟨#[48]⟩] 9))
    have HRD:=zAA (show Rd (w22.alloc (.cells #[.string s1,.string (zAS 4 0 b []),.string ⟨#[48]⟩] 9)) [] (.slice (some ⟨w22.heap.size,0,none⟩) 3 3) (zAq [s1,zAS 4 0 b [],⟨#[48]⟩])from zDT w22 9 [] (zAq [s1,zAS 4 0 b [],⟨#[48]⟩]) (by simp) (by unfold maxLen;show 3<=_;omega))
    generalize (w22.alloc (.cells #[.string s1,.string (zAS 4 0 b []),.string ⟨#[48]⟩] 9))=w19 at *
    refine wpAnyH_ready (rs:=[20]) (by kernel_rfl) (by simp) ?_
    refine(AllReadyH.cons rfl (fun K hK=>?_) AllReadyH.nil)
    go_simp
    (go_at_call 66;refine(zDI 10 (by decide) n HNW.out _ _ [] [s1,zAS 4 0 b [],⟨#[48]⟩] HPS.out w19 (Rd.nil _ _) HRD.out (HTB.out.only hHeld (by simp))).mono ?_;rintro e w20 ⟨rfl,ho⟩;replace HNM:=zAA (HNM.out.only ho (by simp));replace HRD:=zAA (HRD.out.only ho (by simp)))
    refine hK.out _ _ (by exact hHeld.trans ho) (fun hHeld=>?_)
    clear hK K ho
    try simp only[List.getElem_toArray,List.getElem_cons_succ,List.getElem_cons_zero,Act.put,List.setIfInBounds_toArray,List.set_cons_zero,List.set_cons_succ]
    refine wpAnyH_take (i:=21) (v:=?_) rfl (by kernel_rfl) (by kernel_rfl) (by kernel_rfl) (fun _ _ _ h=>h) (Or.inl ⟨by rfl,?_⟩) (by assumption) ?_
    rotate_left
    ·(intro w hSw;(try dsimp only at hSw);go_simp;try with_reducible rfl)
    try simp only[List.getElem_toArray,List.getElem_cons_succ,List.getElem_cons_zero,Act.put,List.setIfInBounds_toArray,List.set_cons_zero,List.set_cons_succ]
    refine wpAnyH_ready (rs:=[23]) (by kernel_rfl) (by simp) ?_
    refine(AllReadyH.cons rfl (fun K hK=>?_) AllReadyH.nil)
    rw[if_pos (by rfl)]
    refine wp_store_mid _ _ _ rfl _ _ (List.toArray _) rfl rfl (zAM HNM.out _ rfl) (by kernel_rfl) (by simp[Value.oneCell']) ?_
    have HST:=zAA (show Blk (w20.setCells _ 0 [.int .i64 4,.int .u32 0,.int .u32 (re:Nat),.int .u64 (n:Nat),.string ⟨#[]⟩,.string ⟨#[]⟩,.string ⟨#[]⟩,.string ⟨#[]⟩,.string ⟨#[]⟩,.string ⟨#[]⟩,.string (zAS 10 n [] [s1,zAS 4 0 b [],⟨#[48]⟩]),.string ⟨#[]⟩,.string ⟨#[]⟩]) _ 25 #[.int .i64 4,.int .u32 0,.int .u32 (re:Nat),.int .u64 (n:Nat),.string ⟨#[]⟩,.string ⟨#[]⟩,.string ⟨#[]⟩,.string ⟨#[]⟩,.string ⟨#[]⟩,.string ⟨#[]⟩,.string (zAS 10 n [] [s1,zAS 4 0 b [],⟨#[48]⟩]),.string ⟨#[]⟩,.string ⟨#[]⟩]from zAJ HNM.out [.int .i64 4,.int .u32 0,.int .u32 (re:Nat),.int .u64 (n:Nat),.string ⟨#[]⟩,.string ⟨#[]⟩,.string ⟨#[]⟩,.string ⟨#[]⟩,.string ⟨#[]⟩,.string ⟨#[]⟩,.string (zAS 10 n [] [s1,zAS 4 0 b [],⟨#[48]⟩]),.string ⟨#[]⟩,.string ⟨#[]⟩] rfl)
    refine hK.out _ _ (by exact zAL hHeld HNS.out [.int .i64 4,.int .u32 0,.int .u32 (re:Nat),.int .u64 (n:Nat),.string ⟨#[]⟩,.string ⟨#[]⟩,.string ⟨#[]⟩,.string ⟨#[]⟩,.string ⟨#[]⟩,.string ⟨#[]⟩,.string (zAS 10 n [] [s1,zAS 4 0 b [],⟨#[48]⟩]),.string ⟨#[]⟩,.string ⟨#[]⟩]) (fun hHeld=>?_)
    clear hK K
    try simp only[List.getElem_toArray,List.getElem_cons_succ,List.getElem_cons_zero,Act.put,List.setIfInBounds_toArray,List.set_cons_zero,List.set_cons_succ]
    refine wpAnyH_done (by kernel_rfl) ?_ _
    dsimp only[Exit.then]
    refine hKK _ _ ?_
    go_meet
    exact⟨_,rfl,HNS.out,HST,zAA hHeld⟩
  ·go_simp
   have HNS:=zAA hHeld.size
   refine hK.out _ _ (by exact hHeld.alloc _) (fun hHeld=>?_)
   clear hK K
   try simp only[List.getElem_toArray,List.getElem_cons_succ,List.getElem_cons_zero,Act.put,List.setIfInBounds_toArray,List.set_cons_zero,List.set_cons_succ]
   have HNM:=zAA (Blk.new wd9 25 #[.int .i64 0,.int .u32 0,.int .u32 0,.int .u64 0,.string ⟨#[]⟩,.string ⟨#[]⟩,.string ⟨#[]⟩,.string ⟨#[]⟩,.string ⟨#[]⟩,.string ⟨#[]⟩,.string ⟨#[]⟩,.string ⟨#[]⟩,.string ⟨#[]⟩])
   generalize (wd9.alloc (.cells #[.int .i64 0,.int .u32 0,.int .u32 0,.int .u64 0,.string ⟨#[]⟩,.string ⟨#[]⟩,.string ⟨#[]⟩,.string ⟨#[]⟩,.string ⟨#[]⟩,.string ⟨#[]⟩,.string ⟨#[]⟩,.string ⟨#[]⟩,.string ⟨#[]⟩] 25))=w22 at *
   refine wpAnyH_ready (rs:=[18]) (by kernel_rfl) (by simp) ?_
   refine(AllReadyH.cons rfl (fun K hK=>?_) AllReadyH.nil)
   go_simp
   (go_at_call 66;refine(zDI 4 (by decide) 0 (by omega) _ _ b [] (by simp) w22 (HB.out.only hHeld (by simp)) (Rd.nil _ _) (HTB.out.only hHeld (by simp))).mono ?_;rintro e w18 ⟨rfl,ho⟩;replace HNM:=zAA (HNM.out.only ho (by simp)))
   refine hK.out _ _ (by exact hHeld.trans ho) (fun hHeld=>?_)
   clear hK K ho
   try simp only[List.getElem_toArray,List.getElem_cons_succ,List.getElem_cons_zero,Act.put,List.setIfInBounds_toArray,List.set_cons_zero,List.set_cons_succ]
   refine wpAnyH_ready (rs:=[19]) (by kernel_rfl) (by simp) ?_
   refine(AllReadyH.cons rfl (fun K hK=>?_) AllReadyH.nil)
   go_simp
   refine hK.out _ _ (by exact hHeld.alloc _) (fun hHeld=>?_)
   clear hK K
   try simp only[List.getElem_toArray,List.getElem_cons_succ,List.getElem_cons_zero,Act.put,List.setIfInBounds_toArray,List.set_cons_zero,List.set_cons_succ]
   replace HNM:=zAA (HNM.out.alloc (.cells #[.string s1,.string (zAS 4 0 b []),.string ⟨#[48]⟩] 9))
   have HRD:=zAA (show Rd (w18.alloc (.cells #[.string s1,.string (zAS 4 0 b []),.string ⟨#[48]⟩] 9)) [] (.slice (some ⟨w18.heap.size,0,none⟩) 3 3) (zAq [s1,zAS 4 0 b [],⟨#[48]⟩])from zDT w18 9 [] (zAq [s1,zAS 4 0 b [],⟨#[48]⟩]) (by simp) (by unfold maxLen;show 3<=_;omega))
   generalize (w18.alloc (.cells #[.string s1,.string (zAS 4 0 b []),.string ⟨#[48]⟩] 9))=w19 at *
   refine wpAnyH_ready (rs:=[20]) (by kernel_rfl) (by simp) ?_
   refine(AllReadyH.cons rfl (fun K hK=>?_) AllReadyH.nil)
   go_simp
   (go_at_call 66;refine(zDI 10 (by decide) n HNW.out _ _ [] [s1,zAS 4 0 b [],⟨#[48]⟩] HPS.out w19 (Rd.nil _ _) HRD.out (HTB.out.only hHeld (by simp))).mono ?_;rintro e w20 ⟨rfl,ho⟩;replace HNM:=zAA (HNM.out.only ho (by simp));replace HRD:=zAA (HRD.out.only ho (by simp)))
   refine hK.out _ _ (by exact hHeld.trans ho) (fun hHeld=>?_)
   clear hK K ho
   try simp only[List.getElem_toArray,List.getElem_cons_succ,List.getElem_cons_zero,Act.put,List.setIfInBounds_toArray,List.set_cons_zero,List.set_cons_succ]
   refine wpAnyH_take (i:=21) (v:=?_) rfl (by kernel_rfl) (by kernel_rfl) (by kernel_rfl) (fun _ _ _ h=>h) (Or.inl ⟨by rfl,?_⟩) (by assumption) ?_
   rotate_left
   ·(intro w hSw;(try dsimp only at hSw);go_simp;try with_reducible rfl)
   try simp only[List.getElem_toArray,List.getElem_cons_succ,List.getElem_cons_zero,Act.put,List.setIfInBounds_toArray,List.set_cons_zero,List.set_cons_succ]
   refine wpAnyH_ready (rs:=[23]) (by kernel_rfl) (by simp) ?_
   refine(AllReadyH.cons rfl (fun K hK=>?_) AllReadyH.nil)
   rw[if_pos (by rfl)]
   refine wp_store_mid _ _ _ rfl _ _ (List.toArray _) rfl rfl (zAM HNM.out _ rfl) (by kernel_rfl) (by simp[Value.oneCell']) ?_
   have HST:=zAA (show Blk (w20.setCells _ 0 [.int .i64 4,.int .u32 0,.int .u32 (re:Nat),.int .u64 (n:Nat),.string ⟨#[]⟩,.string ⟨#[]⟩,.string ⟨#[]⟩,.string ⟨#[]⟩,.string ⟨#[]⟩,.string ⟨#[]⟩,.string (zAS 10 n [] [s1,zAS 4 0 b [],⟨#[48]⟩]),.string ⟨#[]⟩,.string ⟨#[]⟩]) _ 25 #[.int .i64 4,.int .u32 0,.int .u32 (re:Nat),.int .u64 (n:Nat),.string ⟨#[]⟩,.string ⟨#[]⟩,.string ⟨#[]⟩,.string ⟨#[]⟩,.string ⟨#[]⟩,.string ⟨#[]⟩,.string (zAS 10 n [] [s1,zAS 4 0 b [],⟨#[48]⟩]),.string ⟨#[]⟩,.string ⟨#[]⟩]from zAJ HNM.out [.int .i64 4,.int .u32 0,.int .u32 (re:Nat),.int .u64 (n:Nat),.string ⟨#[]⟩,.string ⟨#[]⟩,.string ⟨#[]⟩,.string ⟨#[]⟩,.string ⟨#[]⟩,.string ⟨#[]⟩,.string (zAS 10 n [] [s1,zAS 4 0 b [],⟨#[48]⟩]),.string ⟨#[]⟩,.string ⟨#[]⟩] rfl)
   refine hK.out _ _ (by exact zAL hHeld HNS.out [.int .i64 4,.int .u32 0,.int .u32 (re:Nat),.int .u64 (n:Nat),.string ⟨#[]⟩,.string ⟨#[]⟩,.string ⟨#[]⟩,.string ⟨#[]⟩,.string ⟨#[]⟩,.string ⟨#[]⟩,.string (zAS 10 n [] [s1,zAS 4 0 b [],⟨#[48]⟩]),.string ⟨#[]⟩,.string ⟨#[]⟩]) (fun hHeld=>?_)
   clear hK K
   try simp only[List.getElem_toArray,List.getElem_cons_succ,List.getElem_cons_zero,Act.put,List.setIfInBounds_toArray,List.set_cons_zero,List.set_cons_succ]
   refine wpAnyH_done (by kernel_rfl) ?_ _
   dsimp only[Exit.then]
   refine hKK _ _ ?_
   go_meet
   exact⟨_,rfl,HNS.out,HST,zAA hHeld⟩
 case rest =>
  obtain⟨m,rfl,hm,HM,HOM⟩:=hcut
  have HGL:=Blk.lt H.out
  replace H:=zAA (PairIs.only H.out HOM.out (by simp))
  have HR2:=zAA (HR.out.only HOM.out (by simp))
  have HO2:=zAA (HO.out.trans HOM.out)
  have HGM:=zAA (show g≠m∧w.heap.size≠m by have:=Blk.lt HR.out;constructor<;>omega)
  clear HGL
  have HTM:=zAA (fun W=>zBQ W (zBy re n s1 b) (zDp HRE.out HNW.out))
  unfold zAp at HTM
  have HMC:=zAA (show(zBy re n s1 b).cells=#[.int .i64 4,.int .u32 0,.int .u32 (re:Nat),.int .u64 (n:Nat),.string ⟨#[]⟩,.string ⟨#[]⟩,.string ⟨#[]⟩,.string ⟨#[]⟩,.string ⟨#[]⟩,.string ⟨#[]⟩,.string (zAS 10 n [] [s1,zAS 4 0 b [],⟨#[48]⟩]),.string ⟨#[]⟩,.string ⟨#[]⟩]from rfl)
  have HTX:=zAA (show(zAU (zBy re n s1 b)).length=1 from rfl)
  rw[HMC.out]at HTM
  generalize zAU (zBy re n s1 b)=tl at *
  clear c0 c1 c2 c3 c4 c5 c6 c7 cf r0 r1 r2 r3 r4 r5 r6 r7 r8 r9 r10 r11 r12 rf
  have c0:=H.out.cell 0;have c1:=H.out.cell 1;have c2:=H.out.cell 2;have c3:=H.out.cell 3;have c4:=H.out.cell 4;have c5:=H.out.cell 5;have c6:=H.out.cell 6;have c7:=H.out.cell 7;simp at c0 c1 c2 c3 c4 c5 c6 c7
  have cf:=H.out.frozen
  generalize hx10:zAS 10 n [] [s1,zAS 4 0 b [],⟨#[48]⟩]=x10 at *
  have m0:=HM.out.cell 0;have m1:=HM.out.cell 1;have m2:=HM.out.cell 2;have m3:=HM.out.cell 3;have m4:=HM.out.cell 4;have m5:=HM.out.cell 5;have m6:=HM.out.cell 6;have m7:=HM.out.cell 7;have m8:=HM.out.cell 8;have m9:=HM.out.cell 9;have m10:=HM.out.cell 10;have m11:=HM.out.cell 11;have m12:=HM.out.cell 12;simp at m0 m1 m2 m3 m4 m5 m6 m7 m8 m9 m10 m11 m12
  cases hr:zAG (zBy re n s1 b)with
  | false =>
   rw[hr]at HTM HV
   simp only[Bool.false_eq_true,if_false]at HTM HV
   clear hr
   go_upto_region 11 with (go_at_call 56;refine(HTM.out _).mono ?_;rintro e wt ⟨ho,rfl⟩;replace H:=zAA (PairIs.only H.out ho (by simp));replace HR2:=zAA (HR2.out.only ho (by simp));replace HO2:=zAA (HO2.out.trans ho);clear ho)
   have r0:=HR2.out.cell 0;have r1:=HR2.out.cell 1;have r2:=HR2.out.cell 2;have r3:=HR2.out.cell 3;have r4:=HR2.out.cell 4;have r5:=HR2.out.cell 5;have r6:=HR2.out.cell 6;have r7:=HR2.out.cell 7;have r8:=HR2.out.cell 8;have r9:=HR2.out.cell 9;have r10:=HR2.out.cell 10;have r11:=HR2.out.cell 11;have r12:=HR2.out.cell 12;simp at r0 r1 r2 r3 r4 r5 r6 r7 r8 r9 r10 r11 r12;have rf:=HR2.out.frozen
   go_wp2_with fail
   refine bodyPost_ret (zAC rfl _ _ w.heap.size 25 _ (0,0) _ rfl (zEy HR2.out (.int .i64 0) (.int .u32 0) (.int .u32 0) (.int .u64 0) (.string ⟨#[]⟩) (.string ⟨#[]⟩) (.string ⟨#[]⟩) (.string ⟨#[]⟩) (.string ⟨#[]⟩) (.string ⟨#[]⟩) (.string ⟨#[]⟩) (.string ⟨#[]⟩) (.string ⟨#[]⟩)) underlying25 rfl (by kernel_rfl)) rfl ?_
   exact zBl HV.out (zIY H.out HGN.out (.int .i64 0) (.int .u32 0) (.int .u32 0) (.int .u64 0) (.string ⟨#[]⟩) (.string ⟨#[]⟩) (.string ⟨#[]⟩) (.string ⟨#[]⟩) (.string ⟨#[]⟩) (.string ⟨#[]⟩) (.string ⟨#[]⟩) (.string ⟨#[]⟩) (.string ⟨#[]⟩)) (zDN HO2.out (.inr (Nat.le_refl _)) (.int .i64 0) (.int .u32 0) (.int .u32 0) (.int .u64 0) (.string ⟨#[]⟩) (.string ⟨#[]⟩) (.string ⟨#[]⟩) (.string ⟨#[]⟩) (.string ⟨#[]⟩) (.string ⟨#[]⟩) (.string ⟨#[]⟩) (.string ⟨#[]⟩) (.string ⟨#[]⟩))
  | true =>
   rw[hr]at HTM HV
   simp only[if_true]at HTM HV
   have hwr:IntKind.u64.wrap ((n:Int)+1)=(n:Int)+1:=by have:=HNX.out;rw[IntKind.wrap_u64];omega
   clear hr
   go_upto_region 12 with (go_at_call 56;refine(HTM.out _).mono ?_;rintro e wt ⟨ho,v,rfl,hrd⟩;obtain⟨A2,cp,hv,hcc,hmm⟩:=hrd.form;replace hv:v=.slice A2 1 cp:=(by rw[hv,show(zEz tl).length=tl.length by simp[zEz],HTX.out]);subst hv;replace H:=zAA (PairIs.only H.out ho (by simp));replace HR2:=zAA (HR2.out.only ho (by simp));replace HM:=zAA (HM.out.only ho (by simp));replace HO2:=zAA (HO2.out.trans ho);clear ho hrd hcc hmm)
   clear c0 c1 c2 c3 c4 c5 c6 c7 cf m0 m1 m2 m3 m4 m5 m6 m7 m8 m9 m10 m11 m12
   have c0:=H.out.cell 0;have c1:=H.out.cell 1;have c2:=H.out.cell 2;have c3:=H.out.cell 3;have c4:=H.out.cell 4;have c5:=H.out.cell 5;have c6:=H.out.cell 6;have c7:=H.out.cell 7;simp at c0 c1 c2 c3 c4 c5 c6 c7
   have cf:=H.out.frozen
   have g0:=zAA (HR2.out.far (p:=⟨g,6,none⟩) (Ne.symm HGN.out) (.int .u64 ((n:Int)+1)))
   have g1:=zAA (show PairIs (wt.setCell ⟨g,6,none⟩ (.int .u64 ((n:Int)+1))) g c s1 s2 lo re beg made ((n:Int)+1)from Blk.set_ H.out 6 _)
   have g2:=zAA (HM.out.far (p:=⟨g,6,none⟩) (Ne.symm HGM.out.1) (.int .u64 ((n:Int)+1)))
   have r0:=g0.out.cell 0;have r1:=g0.out.cell 1;have r2:=g0.out.cell 2;have r3:=g0.out.cell 3;have r4:=g0.out.cell 4;have r5:=g0.out.cell 5;have r6:=g0.out.cell 6;have r7:=g0.out.cell 7;have r8:=g0.out.cell 8;have r9:=g0.out.cell 9;have r10:=g0.out.cell 10;have r11:=g0.out.cell 11;have r12:=g0.out.cell 12;simp at r0 r1 r2 r3 r4 r5 r6 r7 r8 r9 r10 r11 r12;have rf:=g0.out.frozen
   have m0:=g2.out.cell 0;have m1:=g2.out.cell 1;have m2:=g2.out.cell 2;have m3:=g2.out.cell 3;have m4:=g2.out.cell 4;have m5:=g2.out.cell 5;have m6:=g2.out.cell 6;have m7:=g2.out.cell 7;have m8:=g2.out.cell 8;have m9:=g2.out.cell 9;have m10:=g2.out.cell 10;have m11:=g2.out.cell 11;have m12:=g2.out.cell 12;simp at m0 m1 m2 m3 m4 m5 m6 m7 m8 m9 m10 m11 m12
   go_wp2_with fail
   refine bodyPost_ret (zAC rfl _ _ w.heap.size 25 _ (0,0) _ rfl (zEy g0.out (.int .i64 4) (.int .u32 0) (.int .u32 (re:Nat)) (.int .u64 (n:Nat)) (.string ⟨#[]⟩) (.string ⟨#[]⟩) (.string ⟨#[]⟩) (.string ⟨#[]⟩) (.string ⟨#[]⟩) (.string ⟨#[]⟩) (.string x10) (.string ⟨#[]⟩) (.string ⟨#[]⟩)) underlying25 rfl (by kernel_rfl)) rfl ?_
   rw[HV.out]
   refine⟨by rw[HMC.out];rfl,?_,?_⟩
   ·show PairIs _ g c s1 s2 lo re beg made ((n:Int)+1)
    exact zIY g1.out HGN.out (.int .i64 4) (.int .u32 0) (.int .u32 (re:Nat)) (.int .u64 (n:Nat)) (.string ⟨#[]⟩) (.string ⟨#[]⟩) (.string ⟨#[]⟩) (.string ⟨#[]⟩) (.string ⟨#[]⟩) (.string ⟨#[]⟩) (.string x10) (.string ⟨#[]⟩) (.string ⟨#[]⟩)
   ·exact(zDN ((HO2.out.mono (S':=[g]) (by simp)).setCell (.inl (by simp)) _) (.inr (Nat.le_refl _)) (.int .i64 4) (.int .u32 0) (.int .u32 (re:Nat)) (.int .u64 (n:Nat)) (.string ⟨#[]⟩) (.string ⟨#[]⟩) (.string ⟨#[]⟩) (.string ⟨#[]⟩) (.string ⟨#[]⟩) (.string ⟨#[]⟩) (.string x10) (.string ⟨#[]⟩) (.string ⟨#[]⟩))
theorem zDq(w:World)(g c:Nat)(s1 s2:ByteArray)(lo re:Nat)(beg:Bool)(made:Int)(n:Nat)(h:PairIs w g c s1 s2 lo re beg made n)(now:Int)(h1:0<=made)(h2:made<=1125899906842624)(A:Option Addr)(cap:Nat)(b:List UInt8)(hs1:s1.size<=maxLen)(hrd:Rd w [] (.slice A b.length cap) (zBR .u8 (zBo b)))(htab:Tab w)(hre:re<4294967296):Calls prog 29 #[.pointer (some ⟨g,0,none⟩),.int .i64 now,.slice A b.length cap] w (zBY g c s1 s2 lo re beg made (zAv re made n s1 now b) w):=by
 cases ht:zAc now with
 | false=>exact zJz w g c s1 s2 lo re beg made n h now h1 h2 _ b ht
 | true =>
  by_cases ho:180000<=zBn made now
  ·exact zLF w g c s1 s2 lo re beg made n h now h1 h2 _ b ht ho
  ·by_cases hn:18446744073709543423<=n
   ·exact zJ0 w g c s1 s2 lo re beg made n h now h1 h2 _ b ht ho hn
   ·by_cases hb:2000<b.length
    ·exact zJ1 w g c s1 s2 lo re beg made n h now h1 h2 A cap b ht ho hn hb
    ·exact zMG w g c s1 s2 lo re beg made n h now h1 h2 A cap b ht ho hn hb hs1 hrd htab hre
end
end Go.Proofs.YtfipdjlalfpbnaaGreatDoor
