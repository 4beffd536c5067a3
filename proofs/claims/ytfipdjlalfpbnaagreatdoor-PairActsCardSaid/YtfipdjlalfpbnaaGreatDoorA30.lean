/-
  Walks and plain words (texts Ag, Same01, La, Lm, Ws0, Wqr1, Wqr2). No condition beyond those that each theorem states.
-/
import Derived.Test.YtfipdjlalfpbnaaGreatDoorA24
import Derived.Test.YtfipdjlalfpbnaaGreatDoorA29
namespace Go.Proofs.YtfipdjlalfpbnaaGreatDoor
section
open Go.Proofs.Tryz
set_option maxHeartbeats 1600000
set_option maxRecDepth 100000
open Go.RowKit Go.Deep

section calls
variable (w:World) (htab:Tab w)
include htab
end calls
theorem zIW(w:World)(G:Nat)(hG:G=w.heap.size)(k:Int)(n:Nat)(hn:n<18446744073709551616)(x y z:ByteArray)(hx:x.size<=maxLen)(hy:y.size<=maxLen)(hz:z.size<=maxLen) :
  Calls prog 101 #[.int .i64 k,.int .u64 n,.slice none 0 0,.slice (some ⟨G,0,none⟩) 3 3] (w.alloc (.cells #[.string x,.string y,.string z] 9)) (zBS (zAS k n [] [x,y,z]) w):=by
 subst hG
 exact(zGX k n hn _ _ [] (by simp) [x,y,z] (by simp) (fun p hp=>by simp at hp;rcases hp with rfl|rfl|rfl<;>assumption) (w.alloc (.cells #[.string x,.string y,.string z] 9)) (Rd.nil _ _) (zDT w 9 [] (zAq [x,y,z]) (by simp) (by unfold maxLen;simp[zAq]))).mono fun e w' h=>⟨h.1,((Only.refl [] w).alloc _).trans h.2⟩

theorem zJu(w:World)(n:Nat)(hn:n<18446744073709551616)(x y z:ByteArray)(hx:x.size<=maxLen)(hy:y.size<=maxLen)(hz:z.size<=maxLen):Calls prog 68 #[.int .u64 n,.string x,.string y,.string z] w (zBS (zAS 10 n [] [x,y,z]) w):=by
 have HN:=zAA hn
 clear hn
 go_enter func68,ntmps68
 go_wp2_with (go_at_call 101;refine(zIW _ _ rfl 10 n HN.out x y z hx hy hz).mono ?_;rintro e w2 ⟨rfl,ho⟩;have HO:=zAA ho;clear ho)
 go_ret
 exact zAN rfl HO.out
end
section
open Go.Proofs.Tryz
open Go.RowKit Go.Deep

theorem zFD(v u:Value)(l m:List UInt8)(N M:List Nat)(w:World)(hx:Rd w N v (zBR .u8 (zBo l)))(hy:Rd w M u (zBR .u8 (zBo m))) :
  Calls prog 33 #[v,u] w fun e w'=>e=.returned (.bool (decide (l=m)))∧w=w':=by
 obtain⟨A,cap,rfl,hc,hm⟩:=hx.formb
 obtain⟨A',cap',rfl,hc',hm'⟩:=hy.formb
 have s1:=zCS (P:=prog) hx 55 9 5 underlying55 underlying5 underlying9
 have s2:=zCS (P:=prog) hy 55 9 5 underlying55 underlying5 underlying9
 have e:(l==m)=decide (l=m):=by
  by_cases h:l=m
  ·simp[h]
  ·simp[h]
 have E:=zAA e
 clear hx hy e
 go_enter func33,ntmps33
 go_wp2_with fail
 go_ret
 refine⟨?_,rfl⟩
 rw[<-E.out]
 rfl
end
section
open Go.RowKit Go.Deep

def zFt(s:ByteArray):Nd:=(zAE s).getD (0,0,[],[])
theorem zIX(s:ByteArray):zEx s=((zFt s).2.2.1,decide ((zFt s).1=4)):=by
 unfold zEx zFt
 cases h:zAE s with
 | none=>rfl
 | some nd =>
  obtain⟨k,n,b,l⟩:=nd
  have hm:=(zCa h).2.2.2.2.2.2.1
  simp only[Option.getD_some]
  by_cases h4:k=4
  ·rw[if_pos h4,decide_eq_true h4]
  ·rw[if_neg h4,decide_eq_false h4,hm h4]
end
section
open Go.RowKit Go.Deep

theorem zJv{k:Int}{n:Nat}{b:List UInt8}{l:List ByteArray}(hn:n<18446744073709551616)(h:zAS k n b l≠ByteArray.empty):(zAS k n b l).size<=65536:=zDE (zC2 hn h)
end
section
open Go.RowKit Go.Deep

theorem zD5(k:Int)(n:Nat)(b:List UInt8)(l:List ByteArray)(hn:n<18446744073709551616):(zAS k n b l).size<=maxLen:=by
 by_cases h:zAS k n b l=ByteArray.empty
 ·rw[h];exact Nat.zero_le _
 ·exact Nat.le_trans (zJv hn h) (by unfold maxLen;omega)
end
section
open Go.Proofs.Tryz
set_option maxHeartbeats 12800000
set_option maxRecDepth 100000
open Go.RowKit Go.Deep

theorem zLA(w:World)(s r c:Nat)(x4 x5 x6 x7 x8 x9 x10 x11 x12:ByteArray)(hF:(Mg.mk 1 s r c x4 x5 x6 x7 x8 x9 x10 x11 x12).Fine):Calls prog 49 #[.agg #[.int .i64 1,.int .u32 (s:Nat),.int .u32 (r:Nat),.int .u64 (c:Nat),.string x4,.string x5,.string x6,.string x7,.string x8,.string x9,.string x10,.string x11,.string x12]] w (zAn (zAG (Mg.mk 1 s r c x4 x5 x6 x7 x8 x9 x10 x11 x12)) w):=by
 obtain⟨hs,hr,hc,hx4,hx5,hx6,hx7,hx8,hx9,hx10,hx11,hx12⟩:=hF
 simp only at hs hr hc hx4 hx5 hx6 hx7 hx8 hx9 hx10 hx11 hx12
 have HTR:=zAA (fun W=>zK0 W s r c x4 x5 x6 x7 x8 x9 x10 x11 x12)
 unfold zBe at HTR
 rw[show(zAU (Mg.mk 1 s r c x4 x5 x6 x7 x8 x9 x10 x11 x12)).length=5 from rfl]at HTR
 have HMB:=zAA (Blk.new w 25 #[.int .i64 1,.int .u32 (s:Nat),.int .u32 (r:Nat),.int .u64 (c:Nat),.string x4,.string x5,.string x6,.string x7,.string x8,.string x9,.string x10,.string x11,.string x12])
 have HO:=zAA ((Only.refl [] w).alloc (.cells #[.int .i64 1,.int .u32 (s:Nat),.int .u32 (r:Nat),.int .u64 (c:Nat),.string x4,.string x5,.string x6,.string x7,.string x8,.string x9,.string x10,.string x11,.string x12] 25))
 have m0:=HMB.out.cell 0;have m1:=HMB.out.cell 1;have m2:=HMB.out.cell 2;have m3:=HMB.out.cell 3;have m4:=HMB.out.cell 4;have m5:=HMB.out.cell 5;have m6:=HMB.out.cell 6;have m7:=HMB.out.cell 7;have m8:=HMB.out.cell 8;have m9:=HMB.out.cell 9;have m10:=HMB.out.cell 10;have m11:=HMB.out.cell 11;have m12:=HMB.out.cell 12;simp at m0 m1 m2 m3 m4 m5 m6 m7 m8 m9 m10 m11 m12
 go_enter func49,ntmps49
 go_upto_region 5 with (go_at_call 106;refine(HTR.out _).mono ?_;rintro e v0 ⟨g,rfl,hg,hb,ho⟩;have HTB:=zAA (show Blk v0 g 9 #[.string x4,.string x5,.string x6,.string x11,.string x12]from hb);replace HMB:=zAA (HMB.out.only ho (by simp));replace HO:=zAA (HO.out.trans ho);clear hg hb ho m0 m1 m2 m3 m4 m5 m6 m7 m8 m9 m10 m11 m12)
 refine wp_loop_rounds 6 ?_
 rw[rounds_succ]
 have cj:=HTB.out.cell 0;simp at cj
 by_cases hz:65535<x4.size
 case pos =>
  have hzI:(65535:Int)<x4.size:=by omega
  have HV:=zAA (show zAG (Mg.mk 1 s r c x4 x5 x6 x7 x8 x9 x10 x11 x12)=false by simp[zAG,zAU,show zAz x4=false by unfold zAz;rw[decide_eq_false (by omega)];rfl])
  clear hz
  go_wp2_with fail
  go_ret
  exact zBz HV.out HO.out
 have hzI:¬(65535:Int)<x4.size:=by omega
 have HIS:=zAA (fun W=>zAd W x4 hx4)
 unfold zAn at HIS
 cases hp:(zAE x4).isSome
 case false =>
  rw[hp]at HIS
  have HV:=zAA (show zAG (Mg.mk 1 s r c x4 x5 x6 x7 x8 x9 x10 x11 x12)=false by simp[zAG,zAU,show zAz x4=false by unfold zAz;rw[hp,Bool.and_false]])
  clear hz hp
  go_wp2_with (go_at_call 18;refine(HIS.out _).mono ?_;rintro e w3 ⟨rfl,ho⟩;replace HO:=zAA (HO.out.trans ho);clear ho)
  go_ret
  exact zBz HV.out HO.out
 rw[hp]at HIS
 have HB4:=zAA (show zAz x4=true by unfold zAz;rw[hp,Bool.and_true];exact decide_eq_true (by omega))
 clear hz hp
 go_wp2_with (go_at_call 18;refine(HIS.out _).mono ?_;rintro e v1 ⟨rfl,ho⟩;replace HMB:=zAA (HMB.out.only ho (by simp));replace HTB:=zAA (HTB.out.only ho (by simp));replace HO:=zAA (HO.out.trans ho);clear ho)
 clear cj HIS hzI
 rw[rounds_succ]
 have cj:=HTB.out.cell 1;simp at cj
 by_cases hz:65535<x5.size
 case pos =>
  have hzI:(65535:Int)<x5.size:=by omega
  have HV:=zAA (show zAG (Mg.mk 1 s r c x4 x5 x6 x7 x8 x9 x10 x11 x12)=false by simp[zAG,zAU,show zAz x5=false by unfold zAz;rw[decide_eq_false (by omega)];rfl])
  clear hz
  go_wp2_with fail
  go_ret
  exact zBz HV.out HO.out
 have hzI:¬(65535:Int)<x5.size:=by omega
 have HIS:=zAA (fun W=>zAd W x5 hx5)
 unfold zAn at HIS
 cases hp:(zAE x5).isSome
 case false =>
  rw[hp]at HIS
  have HV:=zAA (show zAG (Mg.mk 1 s r c x4 x5 x6 x7 x8 x9 x10 x11 x12)=false by simp[zAG,zAU,show zAz x5=false by unfold zAz;rw[hp,Bool.and_false]])
  clear hz hp
  go_wp2_with (go_at_call 18;refine(HIS.out _).mono ?_;rintro e w3 ⟨rfl,ho⟩;replace HO:=zAA (HO.out.trans ho);clear ho)
  go_ret
  exact zBz HV.out HO.out
 rw[hp]at HIS
 have HB5:=zAA (show zAz x5=true by unfold zAz;rw[hp,Bool.and_true];exact decide_eq_true (by omega))
 clear hz hp
 go_wp2_with (go_at_call 18;refine(HIS.out _).mono ?_;rintro e v2 ⟨rfl,ho⟩;replace HMB:=zAA (HMB.out.only ho (by simp));replace HTB:=zAA (HTB.out.only ho (by simp));replace HO:=zAA (HO.out.trans ho);clear ho)
 clear cj HIS hzI
 rw[rounds_succ]
 have cj:=HTB.out.cell 2;simp at cj
 by_cases hz:65535<x6.size
 case pos =>
  have hzI:(65535:Int)<x6.size:=by omega
  have HV:=zAA (show zAG (Mg.mk 1 s r c x4 x5 x6 x7 x8 x9 x10 x11 x12)=false by simp[zAG,zAU,show zAz x6=false by unfold zAz;rw[decide_eq_false (by omega)];rfl])
  clear hz
  go_wp2_with fail
  go_ret
  exact zBz HV.out HO.out
 have hzI:¬(65535:Int)<x6.size:=by omega
 have HIS:=zAA (fun W=>zAd W x6 hx6)
 unfold zAn at HIS
 cases hp:(zAE x6).isSome
 case false =>
  rw[hp]at HIS
  have HV:=zAA (show zAG (Mg.mk 1 s r c x4 x5 x6 x7 x8 x9 x10 x11 x12)=false by simp[zAG,zAU,show zAz x6=false by unfold zAz;rw[hp,Bool.and_false]])
  clear hz hp
  go_wp2_with (go_at_call 18;refine(HIS.out _).mono ?_;rintro e w3 ⟨rfl,ho⟩;replace HO:=zAA (HO.out.trans ho);clear ho)
  go_ret
  exact zBz HV.out HO.out
 rw[hp]at HIS
 have HB6:=zAA (show zAz x6=true by unfold zAz;rw[hp,Bool.and_true];exact decide_eq_true (by omega))
 clear hz hp
 go_wp2_with (go_at_call 18;refine(HIS.out _).mono ?_;rintro e v3 ⟨rfl,ho⟩;replace HMB:=zAA (HMB.out.only ho (by simp));replace HTB:=zAA (HTB.out.only ho (by simp));replace HO:=zAA (HO.out.trans ho);clear ho)
 clear cj HIS hzI
 rw[rounds_succ]
 have cj:=HTB.out.cell 3;simp at cj
 by_cases hz:65535<x11.size
 case pos =>
  have hzI:(65535:Int)<x11.size:=by omega
  have HV:=zAA (show zAG (Mg.mk 1 s r c x4 x5 x6 x7 x8 x9 x10 x11 x12)=false by simp[zAG,zAU,show zAz x11=false by unfold zAz;rw[decide_eq_false (by omega)];rfl])
  clear hz
  go_wp2_with fail
  go_ret
  exact zBz HV.out HO.out
 have hzI:¬(65535:Int)<x11.size:=by omega
 have HIS:=zAA (fun W=>zAd W x11 hx11)
 unfold zAn at HIS
 cases hp:(zAE x11).isSome
 case false =>
  rw[hp]at HIS
  have HV:=zAA (show zAG (Mg.mk 1 s r c x4 x5 x6 x7 x8 x9 x10 x11 x12)=false by simp[zAG,zAU,show zAz x11=false by unfold zAz;rw[hp,Bool.and_false]])
  clear hz hp
  go_wp2_with (go_at_call 18;refine(HIS.out _).mono ?_;rintro e w3 ⟨rfl,ho⟩;replace HO:=zAA (HO.out.trans ho);clear ho)
  go_ret
  exact zBz HV.out HO.out
 rw[hp]at HIS
 have HB11:=zAA (show zAz x11=true by unfold zAz;rw[hp,Bool.and_true];exact decide_eq_true (by omega))
 clear hz hp
 go_wp2_with (go_at_call 18;refine(HIS.out _).mono ?_;rintro e v4 ⟨rfl,ho⟩;replace HMB:=zAA (HMB.out.only ho (by simp));replace HTB:=zAA (HTB.out.only ho (by simp));replace HO:=zAA (HO.out.trans ho);clear ho)
 clear cj HIS hzI
 rw[rounds_succ]
 have cj:=HTB.out.cell 4;simp at cj
 by_cases hz:65535<x12.size
 case pos =>
  have hzI:(65535:Int)<x12.size:=by omega
  have HV:=zAA (show zAG (Mg.mk 1 s r c x4 x5 x6 x7 x8 x9 x10 x11 x12)=false by simp[zAG,zAU,show zAz x12=false by unfold zAz;rw[decide_eq_false (by omega)];rfl])
  clear hz
  go_wp2_with fail
  go_ret
  exact zBz HV.out HO.out
 have hzI:¬(65535:Int)<x12.size:=by omega
 have HIS:=zAA (fun W=>zAd W x12 hx12)
 unfold zAn at HIS
 cases hp:(zAE x12).isSome
 case false =>
  rw[hp]at HIS
  have HV:=zAA (show zAG (Mg.mk 1 s r c x4 x5 x6 x7 x8 x9 x10 x11 x12)=false by simp[zAG,zAU,show zAz x12=false by unfold zAz;rw[hp,Bool.and_false]])
  clear hz hp
  go_wp2_with (go_at_call 18;refine(HIS.out _).mono ?_;rintro e w3 ⟨rfl,ho⟩;replace HO:=zAA (HO.out.trans ho);clear ho)
  go_ret
  exact zBz HV.out HO.out
 rw[hp]at HIS
 have HB12:=zAA (show zAz x12=true by unfold zAz;rw[hp,Bool.and_true];exact decide_eq_true (by omega))
 clear hz hp
 go_wp2_with (go_at_call 18;refine(HIS.out _).mono ?_;rintro e v5 ⟨rfl,ho⟩;replace HMB:=zAA (HMB.out.only ho (by simp));replace HTB:=zAA (HTB.out.only ho (by simp));replace HO:=zAA (HO.out.trans ho);clear ho)
 clear cj HIS hzI
 rw[rounds_succ]
 have heq:∀W:World,(binOp .eql 25 (.agg #[.int .i64 1,.int .u32 (s:Nat),.int .u32 0,.int .u64 0,.string x4,.string x5,.string x6,.string ⟨#[]⟩,.string ⟨#[]⟩,.string ⟨#[]⟩,.string ⟨#[]⟩,.string x11,.string x12]) (.agg #[.int .i64 1,.int .u32 (s:Nat),.int .u32 (r:Nat),.int .u64 (c:Nat),.string x4,.string x5,.string x6,.string x7,.string x8,.string x9,.string x10,.string x11,.string x12])).run prog W=.ok (.bool (eqM (zBU (Mg.mk 1 s r c x4 x5 x6 x7 x8 x9 x10 x11 x12)) (Mg.mk 1 s r c x4 x5 x6 x7 x8 x9 x10 x11 x12))) W:=fun W=>zCh (zBU (Mg.mk 1 s r c x4 x5 x6 x7 x8 x9 x10 x11 x12)) (Mg.mk 1 s r c x4 x5 x6 x7 x8 x9 x10 x11 x12) W
 have HV:=zAA (show zAG (Mg.mk 1 s r c x4 x5 x6 x7 x8 x9 x10 x11 x12)=eqM (zBU (Mg.mk 1 s r c x4 x5 x6 x7 x8 x9 x10 x11 x12)) (Mg.mk 1 s r c x4 x5 x6 x7 x8 x9 x10 x11 x12)by simp[zAG,zAU,HB4.out,HB5.out,HB6.out,HB11.out,HB12.out])
 generalize eqM (zBU (Mg.mk 1 s r c x4 x5 x6 x7 x8 x9 x10 x11 x12)) (Mg.mk 1 s r c x4 x5 x6 x7 x8 x9 x10 x11 x12)=B at *
 have HW:=zAA (fun W (h0:W.cell? ⟨g,0,none⟩=some (.string x4)) (h1:W.cell? ⟨g,1,none⟩=some (.string x5)) (h2:W.cell? ⟨g,2,none⟩=some (.string x6)) (h3:W.cell? ⟨g,3,none⟩=some (.string x11)) (h4:W.cell? ⟨g,4,none⟩=some (.string x12))=>zMk W s r c g 0 5 x4 x5 x6 x11 x12 (by omega) (by first|exact h0|simpa using h0) (by first|exact h1|simpa using h1) (by first|exact h2|simpa using h2) (by first|exact h3|simpa using h3) (by first|exact h4|simpa using h4))
 go_wp2_with fail
 refine wp_region_held_drew (S:=fun W=>Only [] v5 W) (by kernel_rfl) (by exact(Only.refl [] v5).drew) (fun hHeld=>?_)
 refine wpAnyH_take (i:=0) (v:=?_) rfl (by kernel_rfl) (by kernel_rfl) (by kernel_rfl) (fun _ _ _ h=>h) (Or.inl ⟨by rfl,?_⟩) (by assumption) ?_
 rotate_left
 ·(intro w hSw;(try dsimp only at hSw);go_simp;try with_reducible rfl)
 try simp only[List.getElem_toArray,List.getElem_cons_zero,Act.put,List.setIfInBounds_toArray,List.set_cons_zero,List.set_cons_succ]
 refine wpAnyH_take (i:=1) (v:=?_) rfl (by kernel_rfl) (by kernel_rfl) (by kernel_rfl) (fun _ _ _ h=>h) (Or.inl ⟨by rfl,?_⟩) (by assumption) ?_
 rotate_left
 ·(intro w hSw;(try dsimp only at hSw);have HMw:=HMB.out.only hSw (by simp);have m0:=(zAA HMw).out.cell 0;simp at m0;go_simp;try with_reducible rfl)
 try simp only[List.getElem_toArray,List.getElem_cons_succ,List.getElem_cons_zero,Act.put,List.setIfInBounds_toArray,List.set_cons_zero,List.set_cons_succ]
 refine wpAnyH_take (i:=2) (v:=?_) rfl (by kernel_rfl) (by kernel_rfl) (by kernel_rfl) (fun _ _ _ h=>h) (Or.inl ⟨by rfl,?_⟩) (by assumption) ?_
 rotate_left
 ·(intro w hSw;(try dsimp only at hSw);go_simp;try with_reducible rfl)
 try simp only[List.getElem_toArray,List.getElem_cons_succ,List.getElem_cons_zero,Act.put,List.setIfInBounds_toArray,List.set_cons_zero,List.set_cons_succ]
 refine wpAnyH_take (i:=3) (v:=?_) rfl (by kernel_rfl) (by kernel_rfl) (by kernel_rfl) (fun _ _ _ h=>h) (Or.inl ⟨by rfl,?_⟩) (by assumption) ?_
 rotate_left
 ·(intro w hSw;(try dsimp only at hSw);have HMw:=HMB.out.only hSw (by simp);have m1:=(zAA HMw).out.cell 1;simp at m1;go_simp;try with_reducible rfl)
 try simp only[List.getElem_toArray,List.getElem_cons_succ,List.getElem_cons_zero,Act.put,List.setIfInBounds_toArray,List.set_cons_zero,List.set_cons_succ]
 refine wpAnyH_take (i:=4) (v:=?_) rfl (by kernel_rfl) (by kernel_rfl) (by kernel_rfl) (fun _ _ _ h=>h) (Or.inl ⟨by rfl,?_⟩) (by assumption) ?_
 rotate_left
 ·(intro w hSw;(try dsimp only at hSw);go_simp;try with_reducible rfl)
 try simp only[List.getElem_toArray,List.getElem_cons_succ,List.getElem_cons_zero,Act.put,List.setIfInBounds_toArray,List.set_cons_zero,List.set_cons_succ]
 refine wpAnyH_take (i:=5) (v:=?_) rfl (by kernel_rfl) (by kernel_rfl) (by kernel_rfl) (fun _ _ _ h=>h) (Or.inl ⟨by rfl,?_⟩) (by assumption) ?_
 rotate_left
 ·(intro w hSw;(try dsimp only at hSw);have HMw:=HMB.out.only hSw (by simp);have m2:=(zAA HMw).out.cell 2;simp at m2;go_simp;try with_reducible rfl)
 try simp only[List.getElem_toArray,List.getElem_cons_succ,List.getElem_cons_zero,Act.put,List.setIfInBounds_toArray,List.set_cons_zero,List.set_cons_succ]
 refine wpAnyH_take (i:=6) (v:=?_) rfl (by kernel_rfl) (by kernel_rfl) (by kernel_rfl) (fun _ _ _ h=>h) (Or.inl ⟨by rfl,?_⟩) (by assumption) ?_
 rotate_left
 ·(intro w hSw;(try dsimp only at hSw);go_simp;try with_reducible rfl)
 try simp only[List.getElem_toArray,List.getElem_cons_succ,List.getElem_cons_zero,Act.put,List.setIfInBounds_toArray,List.set_cons_zero,List.set_cons_succ]
 refine wpAnyH_take (i:=7) (v:=?_) rfl (by kernel_rfl) (by kernel_rfl) (by kernel_rfl) (fun _ _ _ h=>h) (Or.inl ⟨by rfl,?_⟩) (by assumption) ?_
 rotate_left
 ·(intro w hSw;(try dsimp only at hSw);have HMw:=HMB.out.only hSw (by simp);have m3:=(zAA HMw).out.cell 3;simp at m3;go_simp;try with_reducible rfl)
 try simp only[List.getElem_toArray,List.getElem_cons_succ,List.getElem_cons_zero,Act.put,List.setIfInBounds_toArray,List.set_cons_zero,List.set_cons_succ]
 refine wpAnyH_take (i:=8) (v:=?_) rfl (by kernel_rfl) (by kernel_rfl) (by kernel_rfl) (fun _ _ _ h=>h) (Or.inl ⟨by rfl,?_⟩) (by assumption) ?_
 rotate_left
 ·(intro w hSw;(try dsimp only at hSw);go_simp;try with_reducible rfl)
 try simp only[List.getElem_toArray,List.getElem_cons_succ,List.getElem_cons_zero,Act.put,List.setIfInBounds_toArray,List.set_cons_zero,List.set_cons_succ]
 refine wpAnyH_take (i:=10) (v:=?_) rfl (by kernel_rfl) (by kernel_rfl) (by kernel_rfl) (fun _ _ _ h=>h) (Or.inl ⟨by rfl,?_⟩) (by assumption) ?_
 rotate_left
 ·(intro w hSw;(try dsimp only at hSw);have HMw:=HMB.out.only hSw (by simp);have m0:=(zAA HMw).out.cell 0;have m1:=(zAA HMw).out.cell 1;have m2:=(zAA HMw).out.cell 2;have m3:=(zAA HMw).out.cell 3;have m4:=(zAA HMw).out.cell 4;have m5:=(zAA HMw).out.cell 5;have m6:=(zAA HMw).out.cell 6;have m7:=(zAA HMw).out.cell 7;have m8:=(zAA HMw).out.cell 8;have m9:=(zAA HMw).out.cell 9;have m10:=(zAA HMw).out.cell 10;have m11:=(zAA HMw).out.cell 11;have m12:=(zAA HMw).out.cell 12;simp at m0 m1 m2 m3 m4 m5 m6 m7 m8 m9 m10 m11 m12;go_simp;try with_reducible rfl)
 try simp only[List.getElem_toArray,List.getElem_cons_succ,List.getElem_cons_zero,Act.put,List.setIfInBounds_toArray,List.set_cons_zero,List.set_cons_succ]
 refine wpAnyH_ready (rs:=[9]) (by kernel_rfl) (by simp) ?_
 refine AllReadyH.cons rfl (fun K hK=>?_) AllReadyH.nil
 go_simp
 (go_at_call 47;refine(HW.out _ (by have h:=(HTB.out.only hHeld (by simp)).cell 0;simpa using h) (by have h:=(HTB.out.only hHeld (by simp)).cell 1;simpa using h) (by have h:=(HTB.out.only hHeld (by simp)).cell 2;simpa using h) (by have h:=(HTB.out.only hHeld (by simp)).cell 3;simpa using h) (by have h:=(HTB.out.only hHeld (by simp)).cell 4;simpa using h)).mono ?_;rintro e wz ⟨rfl,ho⟩)
 refine hK.out _ _ (by exact hHeld.trans ho) (fun hHeld=>?_)
 clear hK K ho
 try simp only[List.getElem_toArray,List.getElem_cons_succ,List.getElem_cons_zero,Act.put,List.setIfInBounds_toArray,List.set_cons_zero,List.set_cons_succ]
 refine wpAnyH_take (i:=11) (v:=?_) rfl (by kernel_rfl) (by kernel_rfl) (by kernel_rfl) (fun _ _ _ h=>h) (Or.inl ⟨by rfl,?_⟩) (by assumption) ?_
 rotate_left
 ·(intro w hSw;(try dsimp only at hSw);go_simp;try with_reducible rfl)
 try simp only[List.getElem_toArray,List.getElem_cons_succ,List.getElem_cons_zero,Act.put,List.setIfInBounds_toArray,List.set_cons_zero,List.set_cons_succ]
 refine wpAnyH_take (i:=12) (v:=?_) rfl (by kernel_rfl) (by kernel_rfl) (by kernel_rfl) (fun _ _ _ h=>h) (Or.inl ⟨by rfl,?_⟩) (by assumption) ?_
 rotate_left
 ·(intro w hSw;(try dsimp only at hSw);go_simp;try with_reducible rfl)
 try simp only[List.getElem_toArray,List.getElem_cons_succ,List.getElem_cons_zero,Act.put,List.setIfInBounds_toArray,List.set_cons_zero,List.set_cons_succ]
 refine wpAnyH_done (by kernel_rfl) ?_ _
 go_wp2_with fail
 go_ret
 exact zBz HV.out (HO.out.trans hHeld)
end
section
open Go.Proofs.Tryz
set_option maxHeartbeats 12800000
set_option maxRecDepth 100000
open Go.RowKit Go.Deep

theorem zLB(w:World)(s r c:Nat)(x4 x5 x6 x7 x8 x9 x10 x11 x12:ByteArray)(hF:(Mg.mk 2 s r c x4 x5 x6 x7 x8 x9 x10 x11 x12).Fine):Calls prog 49 #[.agg #[.int .i64 2,.int .u32 (s:Nat),.int .u32 (r:Nat),.int .u64 (c:Nat),.string x4,.string x5,.string x6,.string x7,.string x8,.string x9,.string x10,.string x11,.string x12]] w (zAn (zAG (Mg.mk 2 s r c x4 x5 x6 x7 x8 x9 x10 x11 x12)) w):=by
 obtain⟨hs,hr,hc,hx4,hx5,hx6,hx7,hx8,hx9,hx10,hx11,hx12⟩:=hF
 simp only at hs hr hc hx4 hx5 hx6 hx7 hx8 hx9 hx10 hx11 hx12
 have HTR:=zAA (fun W=>zK1 W s r c x4 x5 x6 x7 x8 x9 x10 x11 x12)
 unfold zBe at HTR
 rw[show(zAU (Mg.mk 2 s r c x4 x5 x6 x7 x8 x9 x10 x11 x12)).length=4 from rfl]at HTR
 have HMB:=zAA (Blk.new w 25 #[.int .i64 2,.int .u32 (s:Nat),.int .u32 (r:Nat),.int .u64 (c:Nat),.string x4,.string x5,.string x6,.string x7,.string x8,.string x9,.string x10,.string x11,.string x12])
 have HO:=zAA ((Only.refl [] w).alloc (.cells #[.int .i64 2,.int .u32 (s:Nat),.int .u32 (r:Nat),.int .u64 (c:Nat),.string x4,.string x5,.string x6,.string x7,.string x8,.string x9,.string x10,.string x11,.string x12] 25))
 have m0:=HMB.out.cell 0;have m1:=HMB.out.cell 1;have m2:=HMB.out.cell 2;have m3:=HMB.out.cell 3;have m4:=HMB.out.cell 4;have m5:=HMB.out.cell 5;have m6:=HMB.out.cell 6;have m7:=HMB.out.cell 7;have m8:=HMB.out.cell 8;have m9:=HMB.out.cell 9;have m10:=HMB.out.cell 10;have m11:=HMB.out.cell 11;have m12:=HMB.out.cell 12;simp at m0 m1 m2 m3 m4 m5 m6 m7 m8 m9 m10 m11 m12
 go_enter func49,ntmps49
 go_upto_region 5 with (go_at_call 106;refine(HTR.out _).mono ?_;rintro e v0 ⟨g,rfl,hg,hb,ho⟩;have HTB:=zAA (show Blk v0 g 9 #[.string x4,.string x7,.string x11,.string x12]from hb);replace HMB:=zAA (HMB.out.only ho (by simp));replace HO:=zAA (HO.out.trans ho);clear hg hb ho m0 m1 m2 m3 m4 m5 m6 m7 m8 m9 m10 m11 m12)
 refine wp_loop_rounds 5 ?_
 rw[rounds_succ]
 have cj:=HTB.out.cell 0;simp at cj
 by_cases hz:65535<x4.size
 case pos =>
  have hzI:(65535:Int)<x4.size:=by omega
  have HV:=zAA (show zAG (Mg.mk 2 s r c x4 x5 x6 x7 x8 x9 x10 x11 x12)=false by simp[zAG,zAU,show zAz x4=false by unfold zAz;rw[decide_eq_false (by omega)];rfl])
  clear hz
  go_wp2_with fail
  go_ret
  exact zBz HV.out HO.out
 have hzI:¬(65535:Int)<x4.size:=by omega
 have HIS:=zAA (fun W=>zAd W x4 hx4)
 unfold zAn at HIS
 cases hp:(zAE x4).isSome
 case false =>
  rw[hp]at HIS
  have HV:=zAA (show zAG (Mg.mk 2 s r c x4 x5 x6 x7 x8 x9 x10 x11 x12)=false by simp[zAG,zAU,show zAz x4=false by unfold zAz;rw[hp,Bool.and_false]])
  clear hz hp
  go_wp2_with (go_at_call 18;refine(HIS.out _).mono ?_;rintro e w3 ⟨rfl,ho⟩;replace HO:=zAA (HO.out.trans ho);clear ho)
  go_ret
  exact zBz HV.out HO.out
 rw[hp]at HIS
 have HB4:=zAA (show zAz x4=true by unfold zAz;rw[hp,Bool.and_true];exact decide_eq_true (by omega))
 clear hz hp
 go_wp2_with (go_at_call 18;refine(HIS.out _).mono ?_;rintro e v1 ⟨rfl,ho⟩;replace HMB:=zAA (HMB.out.only ho (by simp));replace HTB:=zAA (HTB.out.only ho (by simp));replace HO:=zAA (HO.out.trans ho);clear ho)
 clear cj HIS hzI
 rw[rounds_succ]
 have cj:=HTB.out.cell 1;simp at cj
 by_cases hz:65535<x7.size
 case pos =>
  have hzI:(65535:Int)<x7.size:=by omega
  have HV:=zAA (show zAG (Mg.mk 2 s r c x4 x5 x6 x7 x8 x9 x10 x11 x12)=false by simp[zAG,zAU,show zAz x7=false by unfold zAz;rw[decide_eq_false (by omega)];rfl])
  clear hz
  go_wp2_with fail
  go_ret
  exact zBz HV.out HO.out
 have hzI:¬(65535:Int)<x7.size:=by omega
 have HIS:=zAA (fun W=>zAd W x7 hx7)
 unfold zAn at HIS
 cases hp:(zAE x7).isSome
 case false =>
  rw[hp]at HIS
  have HV:=zAA (show zAG (Mg.mk 2 s r c x4 x5 x6 x7 x8 x9 x10 x11 x12)=false by simp[zAG,zAU,show zAz x7=false by unfold zAz;rw[hp,Bool.and_false]])
  clear hz hp
  go_wp2_with (go_at_call 18;refine(HIS.out _).mono ?_;rintro e w3 ⟨rfl,ho⟩;replace HO:=zAA (HO.out.trans ho);clear ho)
  go_ret
  exact zBz HV.out HO.out
 rw[hp]at HIS
 have HB7:=zAA (show zAz x7=true by unfold zAz;rw[hp,Bool.and_true];exact decide_eq_true (by omega))
 clear hz hp
 go_wp2_with (go_at_call 18;refine(HIS.out _).mono ?_;rintro e v2 ⟨rfl,ho⟩;replace HMB:=zAA (HMB.out.only ho (by simp));replace HTB:=zAA (HTB.out.only ho (by simp));replace HO:=zAA (HO.out.trans ho);clear ho)
 clear cj HIS hzI
 rw[rounds_succ]
 have cj:=HTB.out.cell 2;simp at cj
 by_cases hz:65535<x11.size
 case pos =>
  have hzI:(65535:Int)<x11.size:=by omega
  have HV:=zAA (show zAG (Mg.mk 2 s r c x4 x5 x6 x7 x8 x9 x10 x11 x12)=false by simp[zAG,zAU,show zAz x11=false by unfold zAz;rw[decide_eq_false (by omega)];rfl])
  clear hz
  go_wp2_with fail
  go_ret
  exact zBz HV.out HO.out
 have hzI:¬(65535:Int)<x11.size:=by omega
 have HIS:=zAA (fun W=>zAd W x11 hx11)
 unfold zAn at HIS
 cases hp:(zAE x11).isSome
 case false =>
  rw[hp]at HIS
  have HV:=zAA (show zAG (Mg.mk 2 s r c x4 x5 x6 x7 x8 x9 x10 x11 x12)=false by simp[zAG,zAU,show zAz x11=false by unfold zAz;rw[hp,Bool.and_false]])
  clear hz hp
  go_wp2_with (go_at_call 18;refine(HIS.out _).mono ?_;rintro e w3 ⟨rfl,ho⟩;replace HO:=zAA (HO.out.trans ho);clear ho)
  go_ret
  exact zBz HV.out HO.out
 rw[hp]at HIS
 have HB11:=zAA (show zAz x11=true by unfold zAz;rw[hp,Bool.and_true];exact decide_eq_true (by omega))
 clear hz hp
 go_wp2_with (go_at_call 18;refine(HIS.out _).mono ?_;rintro e v3 ⟨rfl,ho⟩;replace HMB:=zAA (HMB.out.only ho (by simp));replace HTB:=zAA (HTB.out.only ho (by simp));replace HO:=zAA (HO.out.trans ho);clear ho)
 clear cj HIS hzI
 rw[rounds_succ]
 have cj:=HTB.out.cell 3;simp at cj
 by_cases hz:65535<x12.size
 case pos =>
  have hzI:(65535:Int)<x12.size:=by omega
  have HV:=zAA (show zAG (Mg.mk 2 s r c x4 x5 x6 x7 x8 x9 x10 x11 x12)=false by simp[zAG,zAU,show zAz x12=false by unfold zAz;rw[decide_eq_false (by omega)];rfl])
  clear hz
  go_wp2_with fail
  go_ret
  exact zBz HV.out HO.out
 have hzI:¬(65535:Int)<x12.size:=by omega
 have HIS:=zAA (fun W=>zAd W x12 hx12)
 unfold zAn at HIS
 cases hp:(zAE x12).isSome
 case false =>
  rw[hp]at HIS
  have HV:=zAA (show zAG (Mg.mk 2 s r c x4 x5 x6 x7 x8 x9 x10 x11 x12)=false by simp[zAG,zAU,show zAz x12=false by unfold zAz;rw[hp,Bool.and_false]])
  clear hz hp
  go_wp2_with (go_at_call 18;refine(HIS.out _).mono ?_;rintro e w3 ⟨rfl,ho⟩;replace HO:=zAA (HO.out.trans ho);clear ho)
  go_ret
  exact zBz HV.out HO.out
 rw[hp]at HIS
 have HB12:=zAA (show zAz x12=true by unfold zAz;rw[hp,Bool.and_true];exact decide_eq_true (by omega))
 clear hz hp
 go_wp2_with (go_at_call 18;refine(HIS.out _).mono ?_;rintro e v4 ⟨rfl,ho⟩;replace HMB:=zAA (HMB.out.only ho (by simp));replace HTB:=zAA (HTB.out.only ho (by simp));replace HO:=zAA (HO.out.trans ho);clear ho)
 clear cj HIS hzI
 rw[rounds_succ]
 have heq:∀W:World,(binOp .eql 25 (.agg #[.int .i64 2,.int .u32 (s:Nat),.int .u32 (r:Nat),.int .u64 0,.string x4,.string ⟨#[]⟩,.string ⟨#[]⟩,.string x7,.string ⟨#[]⟩,.string ⟨#[]⟩,.string ⟨#[]⟩,.string x11,.string x12]) (.agg #[.int .i64 2,.int .u32 (s:Nat),.int .u32 (r:Nat),.int .u64 (c:Nat),.string x4,.string x5,.string x6,.string x7,.string x8,.string x9,.string x10,.string x11,.string x12])).run prog W=.ok (.bool (eqM (zBU (Mg.mk 2 s r c x4 x5 x6 x7 x8 x9 x10 x11 x12)) (Mg.mk 2 s r c x4 x5 x6 x7 x8 x9 x10 x11 x12))) W:=fun W=>zCh (zBU (Mg.mk 2 s r c x4 x5 x6 x7 x8 x9 x10 x11 x12)) (Mg.mk 2 s r c x4 x5 x6 x7 x8 x9 x10 x11 x12) W
 have HV:=zAA (show zAG (Mg.mk 2 s r c x4 x5 x6 x7 x8 x9 x10 x11 x12)=eqM (zBU (Mg.mk 2 s r c x4 x5 x6 x7 x8 x9 x10 x11 x12)) (Mg.mk 2 s r c x4 x5 x6 x7 x8 x9 x10 x11 x12)by simp[zAG,zAU,HB4.out,HB7.out,HB11.out,HB12.out])
 generalize eqM (zBU (Mg.mk 2 s r c x4 x5 x6 x7 x8 x9 x10 x11 x12)) (Mg.mk 2 s r c x4 x5 x6 x7 x8 x9 x10 x11 x12)=B at *
 have HW:=zAA (fun W (h0:W.cell? ⟨g,0,none⟩=some (.string x4)) (h1:W.cell? ⟨g,1,none⟩=some (.string x7)) (h2:W.cell? ⟨g,2,none⟩=some (.string x11)) (h3:W.cell? ⟨g,3,none⟩=some (.string x12))=>zMl W s r c g 0 4 x4 x7 x11 x12 (by omega) (by first|exact h0|simpa using h0) (by first|exact h1|simpa using h1) (by first|exact h2|simpa using h2) (by first|exact h3|simpa using h3))
 go_wp2_with fail
 refine wp_region_held_drew (S:=fun W=>Only [] v4 W) (by kernel_rfl) (by exact(Only.refl [] v4).drew) (fun hHeld=>?_)
 refine wpAnyH_take (i:=0) (v:=?_) rfl (by kernel_rfl) (by kernel_rfl) (by kernel_rfl) (fun _ _ _ h=>h) (Or.inl ⟨by rfl,?_⟩) (by assumption) ?_
 rotate_left
 ·(intro w hSw;(try dsimp only at hSw);go_simp;try with_reducible rfl)
 try simp only[List.getElem_toArray,List.getElem_cons_zero,Act.put,List.setIfInBounds_toArray,List.set_cons_zero,List.set_cons_succ]
 refine wpAnyH_take (i:=1) (v:=?_) rfl (by kernel_rfl) (by kernel_rfl) (by kernel_rfl) (fun _ _ _ h=>h) (Or.inl ⟨by rfl,?_⟩) (by assumption) ?_
 rotate_left
 ·(intro w hSw;(try dsimp only at hSw);have HMw:=HMB.out.only hSw (by simp);have m0:=(zAA HMw).out.cell 0;simp at m0;go_simp;try with_reducible rfl)
 try simp only[List.getElem_toArray,List.getElem_cons_succ,List.getElem_cons_zero,Act.put,List.setIfInBounds_toArray,List.set_cons_zero,List.set_cons_succ]
 refine wpAnyH_take (i:=2) (v:=?_) rfl (by kernel_rfl) (by kernel_rfl) (by kernel_rfl) (fun _ _ _ h=>h) (Or.inl ⟨by rfl,?_⟩) (by assumption) ?_
 rotate_left
 ·(intro w hSw;(try dsimp only at hSw);go_simp;try with_reducible rfl)
 try simp only[List.getElem_toArray,List.getElem_cons_succ,List.getElem_cons_zero,Act.put,List.setIfInBounds_toArray,List.set_cons_zero,List.set_cons_succ]
 refine wpAnyH_take (i:=3) (v:=?_) rfl (by kernel_rfl) (by kernel_rfl) (by kernel_rfl) (fun _ _ _ h=>h) (Or.inl ⟨by rfl,?_⟩) (by assumption) ?_
 rotate_left
 ·(intro w hSw;(try dsimp only at hSw);have HMw:=HMB.out.only hSw (by simp);have m1:=(zAA HMw).out.cell 1;simp at m1;go_simp;try with_reducible rfl)
 try simp only[List.getElem_toArray,List.getElem_cons_succ,List.getElem_cons_zero,Act.put,List.setIfInBounds_toArray,List.set_cons_zero,List.set_cons_succ]
 refine wpAnyH_take (i:=4) (v:=?_) rfl (by kernel_rfl) (by kernel_rfl) (by kernel_rfl) (fun _ _ _ h=>h) (Or.inl ⟨by rfl,?_⟩) (by assumption) ?_
 rotate_left
 ·(intro w hSw;(try dsimp only at hSw);go_simp;try with_reducible rfl)
 try simp only[List.getElem_toArray,List.getElem_cons_succ,List.getElem_cons_zero,Act.put,List.setIfInBounds_toArray,List.set_cons_zero,List.set_cons_succ]
 refine wpAnyH_take (i:=5) (v:=?_) rfl (by kernel_rfl) (by kernel_rfl) (by kernel_rfl) (fun _ _ _ h=>h) (Or.inl ⟨by rfl,?_⟩) (by assumption) ?_
 rotate_left
 ·(intro w hSw;(try dsimp only at hSw);have HMw:=HMB.out.only hSw (by simp);have m2:=(zAA HMw).out.cell 2;simp at m2;go_simp;try with_reducible rfl)
 try simp only[List.getElem_toArray,List.getElem_cons_succ,List.getElem_cons_zero,Act.put,List.setIfInBounds_toArray,List.set_cons_zero,List.set_cons_succ]
 refine wpAnyH_take (i:=6) (v:=?_) rfl (by kernel_rfl) (by kernel_rfl) (by kernel_rfl) (fun _ _ _ h=>h) (Or.inl ⟨by rfl,?_⟩) (by assumption) ?_
 rotate_left
 ·(intro w hSw;(try dsimp only at hSw);go_simp;try with_reducible rfl)
 try simp only[List.getElem_toArray,List.getElem_cons_succ,List.getElem_cons_zero,Act.put,List.setIfInBounds_toArray,List.set_cons_zero,List.set_cons_succ]
 refine wpAnyH_take (i:=7) (v:=?_) rfl (by kernel_rfl) (by kernel_rfl) (by kernel_rfl) (fun _ _ _ h=>h) (Or.inl ⟨by rfl,?_⟩) (by assumption) ?_
 rotate_left
 ·(intro w hSw;(try dsimp only at hSw);have HMw:=HMB.out.only hSw (by simp);have m3:=(zAA HMw).out.cell 3;simp at m3;go_simp;try with_reducible rfl)
 try simp only[List.getElem_toArray,List.getElem_cons_succ,List.getElem_cons_zero,Act.put,List.setIfInBounds_toArray,List.set_cons_zero,List.set_cons_succ]
 refine wpAnyH_take (i:=8) (v:=?_) rfl (by kernel_rfl) (by kernel_rfl) (by kernel_rfl) (fun _ _ _ h=>h) (Or.inl ⟨by rfl,?_⟩) (by assumption) ?_
 rotate_left
 ·(intro w hSw;(try dsimp only at hSw);go_simp;try with_reducible rfl)
 try simp only[List.getElem_toArray,List.getElem_cons_succ,List.getElem_cons_zero,Act.put,List.setIfInBounds_toArray,List.set_cons_zero,List.set_cons_succ]
 refine wpAnyH_take (i:=10) (v:=?_) rfl (by kernel_rfl) (by kernel_rfl) (by kernel_rfl) (fun _ _ _ h=>h) (Or.inl ⟨by rfl,?_⟩) (by assumption) ?_
 rotate_left
 ·(intro w hSw;(try dsimp only at hSw);have HMw:=HMB.out.only hSw (by simp);have m0:=(zAA HMw).out.cell 0;have m1:=(zAA HMw).out.cell 1;have m2:=(zAA HMw).out.cell 2;have m3:=(zAA HMw).out.cell 3;have m4:=(zAA HMw).out.cell 4;have m5:=(zAA HMw).out.cell 5;have m6:=(zAA HMw).out.cell 6;have m7:=(zAA HMw).out.cell 7;have m8:=(zAA HMw).out.cell 8;have m9:=(zAA HMw).out.cell 9;have m10:=(zAA HMw).out.cell 10;have m11:=(zAA HMw).out.cell 11;have m12:=(zAA HMw).out.cell 12;simp at m0 m1 m2 m3 m4 m5 m6 m7 m8 m9 m10 m11 m12;go_simp;try with_reducible rfl)
 try simp only[List.getElem_toArray,List.getElem_cons_succ,List.getElem_cons_zero,Act.put,List.setIfInBounds_toArray,List.set_cons_zero,List.set_cons_succ]
 refine wpAnyH_ready (rs:=[9]) (by kernel_rfl) (by simp) ?_
 refine AllReadyH.cons rfl (fun K hK=>?_) AllReadyH.nil
 go_simp
 (go_at_call 47;refine(HW.out _ (by have h:=(HTB.out.only hHeld (by simp)).cell 0;simpa using h) (by have h:=(HTB.out.only hHeld (by simp)).cell 1;simpa using h) (by have h:=(HTB.out.only hHeld (by simp)).cell 2;simpa using h) (by have h:=(HTB.out.only hHeld (by simp)).cell 3;simpa using h)).mono ?_;rintro e wz ⟨rfl,ho⟩)
 refine hK.out _ _ (by exact hHeld.trans ho) (fun hHeld=>?_)
 clear hK K ho
 try simp only[List.getElem_toArray,List.getElem_cons_succ,List.getElem_cons_zero,Act.put,List.setIfInBounds_toArray,List.set_cons_zero,List.set_cons_succ]
 refine wpAnyH_take (i:=11) (v:=?_) rfl (by kernel_rfl) (by kernel_rfl) (by kernel_rfl) (fun _ _ _ h=>h) (Or.inl ⟨by rfl,?_⟩) (by assumption) ?_
 rotate_left
 ·(intro w hSw;(try dsimp only at hSw);go_simp;try with_reducible rfl)
 try simp only[List.getElem_toArray,List.getElem_cons_succ,List.getElem_cons_zero,Act.put,List.setIfInBounds_toArray,List.set_cons_zero,List.set_cons_succ]
 refine wpAnyH_take (i:=12) (v:=?_) rfl (by kernel_rfl) (by kernel_rfl) (by kernel_rfl) (fun _ _ _ h=>h) (Or.inl ⟨by rfl,?_⟩) (by assumption) ?_
 rotate_left
 ·(intro w hSw;(try dsimp only at hSw);go_simp;try with_reducible rfl)
 try simp only[List.getElem_toArray,List.getElem_cons_succ,List.getElem_cons_zero,Act.put,List.setIfInBounds_toArray,List.set_cons_zero,List.set_cons_succ]
 refine wpAnyH_done (by kernel_rfl) ?_ _
 go_wp2_with fail
 go_ret
 exact zBz HV.out (HO.out.trans hHeld)
end
end Go.Proofs.YtfipdjlalfpbnaaGreatDoor
