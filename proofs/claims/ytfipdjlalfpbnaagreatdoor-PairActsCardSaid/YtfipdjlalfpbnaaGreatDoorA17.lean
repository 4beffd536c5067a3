/-
  Walks and plain words (texts Wb, Wd, We, Wf, Wi0, Wj0, Wk, Wl0). No condition beyond those that each theorem states.
-/
import Derived.Lib.AppendStr
import Derived.Test.YtfipdjlalfpbnaaGreatDoorA16
namespace Go.Proofs.YtfipdjlalfpbnaaGreatDoor
section
open Go.Proofs.Tryz
set_option maxHeartbeats 3200000
set_option maxRecDepth 100000
open Go.RowKit Go.Deep

def zB8(f:FuncId):List Value:=[.int .i64 0,.nilFunc,.nilFunc,fnV f]
def zL3:List Value:=[.int .i64 8,fnV 160,fnV 161,.nilFunc]
def zDe(b1 _b2:Nat):List Value:=zBd b1++zB8 152++zB8 155++zB8 156++zB8 153++zB8 154
def zDf(b1 b2:Nat):List Value:=zBd b1++zBd b2++zB8 152++zB8 157++zB8 153++zB8 154
def zGN(_b1 b2:Nat):List Value:=zBd b2++zB8 158++zB8 159
def zGO(_b1 b2:Nat):List Value:=zBd b2++zL3++zB8 162
theorem zAl{w:World}{g:Nat}{t:TypeId}{cs:Array Value}(h:g=w.heap.size):Blk (w.alloc (.cells cs t)) g t cs:=h▸Blk.new w t cs
def zCm(n:Nat)(C:Nat->Nat->List Value)(w:World)(e:Ending)(w':World):Prop :=
 ∃g b1 b2,e=.returned (.slice (some ⟨g,0,none⟩) n n)∧w.heap.size<=g∧w.heap.size<=b1∧w.heap.size<=b2∧Blk w' g 155 (C b1 b2).toArray ∧
  Blk w' b1 205 #[fnV 150]∧Blk w' b2 205 #[fnV 151]∧Only [] w w'
theorem zFm{n:Nat}{C:Nat->Nat->List Value}{w w':World}{g b1 b2:Nat}(h1:w.heap.size<=g)(h2:w.heap.size<=b1)(h3:w.heap.size<=b2)(h4:Blk w' g 155 (C b1 b2).toArray)
  (h5:Blk w' b1 205 #[fnV 150]) (h6:Blk w' b2 205 #[fnV 151]) (h7:Only [] w w'):zCm n C w (.returned (.slice (some ⟨g,0,none⟩) n n)) w' :=
 ⟨g,b1,b2,rfl,h1,h2,h3,h4,h5,h6,h7⟩

theorem zMv(w:World):Calls prog 132 #[.int .i64 1] w (zCm 6 zDe w):=by
 have hst:=fun(W:World) (a:Addr) (fn:Fn) (c:Array Value)=>(run_store prog W a (.func fn #[] c) .plain rfl:(store a (.func fn #[] c)).run prog W=stored prog W a (.func fn #[] c) .plain)
 have hsn:=fun(W:World) (a:Addr)=>(run_store prog W a .nilFunc .plain rfl:(store a .nilFunc).run prog W=stored prog W a .nilFunc .plain)
 go_enter func132,ntmps132
 go_upto_region 10 with (go_at_call 149;refine(zCE _ _).mono ?_;(first
  | (rintro e w1 ⟨rfl,hb1,hs1,ho1⟩;have HS0:Hid (Blk w1 w.heap.size _ #[fnV 150]):=zAA hb1;have HZ:=zAA hs1;have HF:=zAA (Blk.new w1 155 (zBd w.heap.size).toArray);have HS:=zAA (HS0.out.alloc (.cells (zBd w.heap.size).toArray 155));have HO:=zAA (ho1.alloc (.cells (zBd w.heap.size).toArray 155));clear hb1 hs1 ho1)
  | (rintro e w2 ⟨rfl,hb1,hs1,ho1⟩;rw[World.size_alloc]at hb1 hs1;have HR:Hid (Blk w2 (w1.heap.size+1) _ #[fnV 151]):=zAA hb1;have HZ2:=zAA hs1;have HS:=zAA (HS.out.only ho1 (by simp));have HF:=zAA (HF.out.only ho1 (by simp));have HO:=zAA (HO.out.trans ho1);clear hb1 hs1 ho1)))
 generalize hW:((((((w2.alloc (.cells #[.int .i64 4,.func (.func 169) #[] #[.pointer (some ⟨w1.heap.size+1,0,none⟩)],.func (.func 170) #[] #[.pointer (some ⟨w1.heap.size+1,0,none⟩)],.nilFunc] 155)).alloc (.cells #[.int .i64 0,.nilFunc,.nilFunc,.func (.func 152) #[] #[]] 155)).alloc (.cells #[.int .i64 0,.nilFunc,.nilFunc,.func (.func 153) #[] #[]] 155)).alloc (.cells #[.int .i64 0,.nilFunc,.nilFunc,.func (.func 154) #[] #[]] 155)).alloc (.cells #[.int .i64 0,.nilFunc,.nilFunc,.func (.func 155) #[] #[]] 155)).alloc (.cells #[.int .i64 0,.nilFunc,.nilFunc,.func (.func 156) #[] #[]] 155))=wq at *
 have HW:=zAA hW
 clear hW
 have HS:=zAA (show Blk wq w.heap.size _ #[fnV 150]from by rw[<-HW.out];repeat (first|exact HS.out|apply Blk.alloc))
 have HR:=zAA (show Blk wq (w1.heap.size+1) _ #[fnV 151]from by rw[<-HW.out];repeat (first|exact HR.out|apply Blk.alloc))
 have HO:=zAA (show Only [] w wq from by rw[<-HW.out];repeat (first|exact HO.out|apply Only.alloc))
 have HF:=zAA (show Blk wq w1.heap.size 155 (zBd w.heap.size).toArray from by rw[<-HW.out];repeat (first|exact HF.out|apply Blk.alloc))
 have s0:=HF.out.cell 0;have s1:=HF.out.cell 1;have s2:=HF.out.cell 2;have s3:=HF.out.cell 3
 simp[zBd]at s0 s1 s2 s3
 have hb:Blk wq (w2.heap.size+1) 155 #[.int .i64 0,.nilFunc,.nilFunc,.func (.func 152) #[] #[]]:=by rw[<-HW.out];repeat (first|exact zAl (by simp)|apply Blk.alloc)
 have t10:=hb.cell 0;have t11:=hb.cell 1;have t12:=hb.cell 2;have t13:=hb.cell 3
 clear hb
 simp at t10 t11 t12 t13
 have hb:Blk wq (w2.heap.size+1+1) 155 #[.int .i64 0,.nilFunc,.nilFunc,.func (.func 153) #[] #[]]:=by rw[<-HW.out];repeat (first|exact zAl (by simp)|apply Blk.alloc)
 have t20:=hb.cell 0;have t21:=hb.cell 1;have t22:=hb.cell 2;have t23:=hb.cell 3
 clear hb
 simp at t20 t21 t22 t23
 have hb:Blk wq (w2.heap.size+1+1+1) 155 #[.int .i64 0,.nilFunc,.nilFunc,.func (.func 154) #[] #[]]:=by rw[<-HW.out];repeat (first|exact zAl (by simp)|apply Blk.alloc)
 have t30:=hb.cell 0;have t31:=hb.cell 1;have t32:=hb.cell 2;have t33:=hb.cell 3
 clear hb
 simp at t30 t31 t32 t33
 have hb:Blk wq (w2.heap.size+1+1+1+1) 155 #[.int .i64 0,.nilFunc,.nilFunc,.func (.func 155) #[] #[]]:=by rw[<-HW.out];repeat (first|exact zAl (by simp)|apply Blk.alloc)
 have t40:=hb.cell 0;have t41:=hb.cell 1;have t42:=hb.cell 2;have t43:=hb.cell 3
 clear hb
 simp at t40 t41 t42 t43
 have hb:Blk wq (w2.heap.size+1+1+1+1+1) 155 #[.int .i64 0,.nilFunc,.nilFunc,.func (.func 156) #[] #[]]:=by rw[<-HW.out];repeat (first|exact zAl (by simp)|apply Blk.alloc)
 have t50:=hb.cell 0;have t51:=hb.cell 1;have t52:=hb.cell 2;have t53:=hb.cell 3
 clear hb
 simp at t50 t51 t52 t53
 clear HW hst hsn
 go_wp2_with fail
 go_ret
 exact zFm (b1:=w.heap.size) (b2:=w1.heap.size+1) (by have:=HO.out.size;omega) (Nat.le_refl _) (by have:=HZ.out;omega) (zAl (by simp)) (HS.out.alloc _) (HR.out.alloc _) (HO.out.alloc _)

theorem zMw(w:World):Calls prog 132 #[.int .i64 2] w (zCm 6 zDf w):=by
 have hst:=fun(W:World) (a:Addr) (fn:Fn) (c:Array Value)=>(run_store prog W a (.func fn #[] c) .plain rfl:(store a (.func fn #[] c)).run prog W=stored prog W a (.func fn #[] c) .plain)
 have hsn:=fun(W:World) (a:Addr)=>(run_store prog W a .nilFunc .plain rfl:(store a .nilFunc).run prog W=stored prog W a .nilFunc .plain)
 go_enter func132,ntmps132
 go_upto_region 13 with (go_at_call 149;refine(zCE _ _).mono ?_;(first
  | (rintro e w1 ⟨rfl,hb1,hs1,ho1⟩;have HS0:Hid (Blk w1 w.heap.size _ #[fnV 150]):=zAA hb1;have HZ:=zAA hs1;have HF:=zAA (Blk.new w1 155 (zBd w.heap.size).toArray);have HS:=zAA (HS0.out.alloc (.cells (zBd w.heap.size).toArray 155));have HO:=zAA (ho1.alloc (.cells (zBd w.heap.size).toArray 155));clear hb1 hs1 ho1)
  | (rintro e w2 ⟨rfl,hb1,hs1,ho1⟩;rw[World.size_alloc]at hb1 hs1;have HR:Hid (Blk w2 (w1.heap.size+1) _ #[fnV 151]):=zAA hb1;have HZ2:=zAA hs1;have HS:=zAA (HS.out.only ho1 (by simp));have HF:=zAA (HF.out.only ho1 (by simp));have HO:=zAA (HO.out.trans ho1);clear hb1 hs1 ho1)))
 generalize hW:(((((w2.alloc (.cells #[.int .i64 4,.func (.func 169) #[] #[.pointer (some ⟨w1.heap.size+1,0,none⟩)],.func (.func 170) #[] #[.pointer (some ⟨w1.heap.size+1,0,none⟩)],.nilFunc] 155)).alloc (.cells #[.int .i64 0,.nilFunc,.nilFunc,.func (.func 152) #[] #[]] 155)).alloc (.cells #[.int .i64 0,.nilFunc,.nilFunc,.func (.func 153) #[] #[]] 155)).alloc (.cells #[.int .i64 0,.nilFunc,.nilFunc,.func (.func 154) #[] #[]] 155)).alloc (.cells #[.int .i64 0,.nilFunc,.nilFunc,.func (.func 157) #[] #[]] 155))=wq at *
 have HW:=zAA hW
 clear hW
 have HS:=zAA (show Blk wq w.heap.size _ #[fnV 150]from by rw[<-HW.out];repeat (first|exact HS.out|apply Blk.alloc))
 have HR:=zAA (show Blk wq (w1.heap.size+1) _ #[fnV 151]from by rw[<-HW.out];repeat (first|exact HR.out|apply Blk.alloc))
 have HO:=zAA (show Only [] w wq from by rw[<-HW.out];repeat (first|exact HO.out|apply Only.alloc))
 have HF:=zAA (show Blk wq w1.heap.size 155 (zBd w.heap.size).toArray from by rw[<-HW.out];repeat (first|exact HF.out|apply Blk.alloc))
 have s0:=HF.out.cell 0;have s1:=HF.out.cell 1;have s2:=HF.out.cell 2;have s3:=HF.out.cell 3
 simp[zBd]at s0 s1 s2 s3
 have hb:Blk wq (w2.heap.size) 155 #[.int .i64 4,.func (.func 169) #[] #[.pointer (some ⟨w1.heap.size+1,0,none⟩)],.func (.func 170) #[] #[.pointer (some ⟨w1.heap.size+1,0,none⟩)],.nilFunc]:=by rw[<-HW.out];repeat (first|exact zAl (by simp)|apply Blk.alloc)
 have t00:=hb.cell 0;have t01:=hb.cell 1;have t02:=hb.cell 2;have t03:=hb.cell 3
 clear hb
 simp at t00 t01 t02 t03
 have hb:Blk wq (w2.heap.size+1) 155 #[.int .i64 0,.nilFunc,.nilFunc,.func (.func 152) #[] #[]]:=by rw[<-HW.out];repeat (first|exact zAl (by simp)|apply Blk.alloc)
 have t10:=hb.cell 0;have t11:=hb.cell 1;have t12:=hb.cell 2;have t13:=hb.cell 3
 clear hb
 simp at t10 t11 t12 t13
 have hb:Blk wq (w2.heap.size+1+1) 155 #[.int .i64 0,.nilFunc,.nilFunc,.func (.func 153) #[] #[]]:=by rw[<-HW.out];repeat (first|exact zAl (by simp)|apply Blk.alloc)
 have t20:=hb.cell 0;have t21:=hb.cell 1;have t22:=hb.cell 2;have t23:=hb.cell 3
 clear hb
 simp at t20 t21 t22 t23
 have hb:Blk wq (w2.heap.size+1+1+1) 155 #[.int .i64 0,.nilFunc,.nilFunc,.func (.func 154) #[] #[]]:=by rw[<-HW.out];repeat (first|exact zAl (by simp)|apply Blk.alloc)
 have t30:=hb.cell 0;have t31:=hb.cell 1;have t32:=hb.cell 2;have t33:=hb.cell 3
 clear hb
 simp at t30 t31 t32 t33
 have hb:Blk wq (w2.heap.size+1+1+1+1) 155 #[.int .i64 0,.nilFunc,.nilFunc,.func (.func 157) #[] #[]]:=by rw[<-HW.out];repeat (first|exact zAl (by simp)|apply Blk.alloc)
 have t40:=hb.cell 0;have t41:=hb.cell 1;have t42:=hb.cell 2;have t43:=hb.cell 3
 clear hb
 simp at t40 t41 t42 t43
 clear HW hst hsn
 go_wp2_with fail
 go_ret
 exact zFm (b1:=w.heap.size) (b2:=w1.heap.size+1) (by have:=HO.out.size;omega) (Nat.le_refl _) (by have:=HZ.out;omega) (zAl (by simp)) (HS.out.alloc _) (HR.out.alloc _) (HO.out.alloc _)

theorem zMx(w:World):Calls prog 132 #[.int .i64 3] w (zCm 3 zGN w):=by
 have hst:=fun(W:World) (a:Addr) (fn:Fn) (c:Array Value)=>(run_store prog W a (.func fn #[] c) .plain rfl:(store a (.func fn #[] c)).run prog W=stored prog W a (.func fn #[] c) .plain)
 have hsn:=fun(W:World) (a:Addr)=>(run_store prog W a .nilFunc .plain rfl:(store a .nilFunc).run prog W=stored prog W a .nilFunc .plain)
 go_enter func132,ntmps132
 go_upto_region 17 with (go_at_call 149;refine(zCE _ _).mono ?_;(first
  | (rintro e w1 ⟨rfl,hb1,hs1,ho1⟩;have HS0:Hid (Blk w1 w.heap.size _ #[fnV 150]):=zAA hb1;have HZ:=zAA hs1;have HF:=zAA (Blk.new w1 155 (zBd w.heap.size).toArray);have HS:=zAA (HS0.out.alloc (.cells (zBd w.heap.size).toArray 155));have HO:=zAA (ho1.alloc (.cells (zBd w.heap.size).toArray 155));clear hb1 hs1 ho1)
  | (rintro e w2 ⟨rfl,hb1,hs1,ho1⟩;rw[World.size_alloc]at hb1 hs1;have HR:Hid (Blk w2 (w1.heap.size+1) _ #[fnV 151]):=zAA hb1;have HZ2:=zAA hs1;have HS:=zAA (HS.out.only ho1 (by simp));have HF:=zAA (HF.out.only ho1 (by simp));have HO:=zAA (HO.out.trans ho1);clear hb1 hs1 ho1)))
 generalize hW:((((((w2.alloc (.cells #[.int .i64 4,.func (.func 169) #[] #[.pointer (some ⟨w1.heap.size+1,0,none⟩)],.func (.func 170) #[] #[.pointer (some ⟨w1.heap.size+1,0,none⟩)],.nilFunc] 155)).alloc (.cells #[.int .i64 0,.nilFunc,.nilFunc,.func (.func 152) #[] #[]] 155)).alloc (.cells #[.int .i64 0,.nilFunc,.nilFunc,.func (.func 153) #[] #[]] 155)).alloc (.cells #[.int .i64 0,.nilFunc,.nilFunc,.func (.func 154) #[] #[]] 155)).alloc (.cells #[.int .i64 0,.nilFunc,.nilFunc,.func (.func 158) #[] #[]] 155)).alloc (.cells #[.int .i64 0,.nilFunc,.nilFunc,.func (.func 159) #[] #[]] 155))=wq at *
 have HW:=zAA hW
 clear hW
 have HS:=zAA (show Blk wq w.heap.size _ #[fnV 150]from by rw[<-HW.out];repeat (first|exact HS.out|apply Blk.alloc))
 have HR:=zAA (show Blk wq (w1.heap.size+1) _ #[fnV 151]from by rw[<-HW.out];repeat (first|exact HR.out|apply Blk.alloc))
 have HO:=zAA (show Only [] w wq from by rw[<-HW.out];repeat (first|exact HO.out|apply Only.alloc))
 have HF:=zAA (show Blk wq w1.heap.size 155 (zBd w.heap.size).toArray from by rw[<-HW.out];repeat (first|exact HF.out|apply Blk.alloc))
 have hb:Blk wq (w2.heap.size) 155 #[.int .i64 4,.func (.func 169) #[] #[.pointer (some ⟨w1.heap.size+1,0,none⟩)],.func (.func 170) #[] #[.pointer (some ⟨w1.heap.size+1,0,none⟩)],.nilFunc]:=by rw[<-HW.out];repeat (first|exact zAl (by simp)|apply Blk.alloc)
 have t00:=hb.cell 0;have t01:=hb.cell 1;have t02:=hb.cell 2;have t03:=hb.cell 3
 clear hb
 simp at t00 t01 t02 t03
 have hb:Blk wq (w2.heap.size+1+1+1+1) 155 #[.int .i64 0,.nilFunc,.nilFunc,.func (.func 158) #[] #[]]:=by rw[<-HW.out];repeat (first|exact zAl (by simp)|apply Blk.alloc)
 have t40:=hb.cell 0;have t41:=hb.cell 1;have t42:=hb.cell 2;have t43:=hb.cell 3
 clear hb
 simp at t40 t41 t42 t43
 have hb:Blk wq (w2.heap.size+1+1+1+1+1) 155 #[.int .i64 0,.nilFunc,.nilFunc,.func (.func 159) #[] #[]]:=by rw[<-HW.out];repeat (first|exact zAl (by simp)|apply Blk.alloc)
 have t50:=hb.cell 0;have t51:=hb.cell 1;have t52:=hb.cell 2;have t53:=hb.cell 3
 clear hb
 simp at t50 t51 t52 t53
 clear HW hst hsn
 go_wp2_with fail
 go_ret
 exact zFm (b1:=w.heap.size) (b2:=w1.heap.size+1) (by have:=HO.out.size;omega) (Nat.le_refl _) (by have:=HZ.out;omega) (zAl (by simp)) (HS.out.alloc _) (HR.out.alloc _) (HO.out.alloc _)

theorem zMy(w:World):Calls prog 132 #[.int .i64 4] w (zCm 3 zGO w):=by
 have hst:=fun(W:World) (a:Addr) (fn:Fn) (c:Array Value)=>(run_store prog W a (.func fn #[] c) .plain rfl:(store a (.func fn #[] c)).run prog W=stored prog W a (.func fn #[] c) .plain)
 have hsn:=fun(W:World) (a:Addr)=>(run_store prog W a .nilFunc .plain rfl:(store a .nilFunc).run prog W=stored prog W a .nilFunc .plain)
 go_enter func132,ntmps132
 go_upto_region 21 with (go_at_call 149;refine(zCE _ _).mono ?_;(first
  | (rintro e w1 ⟨rfl,hb1,hs1,ho1⟩;have HS0:Hid (Blk w1 w.heap.size _ #[fnV 150]):=zAA hb1;have HZ:=zAA hs1;have HF:=zAA (Blk.new w1 155 (zBd w.heap.size).toArray);have HS:=zAA (HS0.out.alloc (.cells (zBd w.heap.size).toArray 155));have HO:=zAA (ho1.alloc (.cells (zBd w.heap.size).toArray 155));clear hb1 hs1 ho1)
  | (rintro e w2 ⟨rfl,hb1,hs1,ho1⟩;rw[World.size_alloc]at hb1 hs1;have HR:Hid (Blk w2 (w1.heap.size+1) _ #[fnV 151]):=zAA hb1;have HZ2:=zAA hs1;have HS:=zAA (HS.out.only ho1 (by simp));have HF:=zAA (HF.out.only ho1 (by simp));have HO:=zAA (HO.out.trans ho1);clear hb1 hs1 ho1)))
 generalize hW:((((((w2.alloc (.cells #[.int .i64 4,.func (.func 169) #[] #[.pointer (some ⟨w1.heap.size+1,0,none⟩)],.func (.func 170) #[] #[.pointer (some ⟨w1.heap.size+1,0,none⟩)],.nilFunc] 155)).alloc (.cells #[.int .i64 0,.nilFunc,.nilFunc,.func (.func 152) #[] #[]] 155)).alloc (.cells #[.int .i64 0,.nilFunc,.nilFunc,.func (.func 153) #[] #[]] 155)).alloc (.cells #[.int .i64 0,.nilFunc,.nilFunc,.func (.func 154) #[] #[]] 155)).alloc (.cells #[.int .i64 8,.func (.func 160) #[] #[],.func (.func 161) #[] #[],.nilFunc] 155)).alloc (.cells #[.int .i64 0,.nilFunc,.nilFunc,.func (.func 162) #[] #[]] 155))=wq at *
 have HW:=zAA hW
 clear hW
 have HS:=zAA (show Blk wq w.heap.size _ #[fnV 150]from by rw[<-HW.out];repeat (first|exact HS.out|apply Blk.alloc))
 have HR:=zAA (show Blk wq (w1.heap.size+1) _ #[fnV 151]from by rw[<-HW.out];repeat (first|exact HR.out|apply Blk.alloc))
 have HO:=zAA (show Only [] w wq from by rw[<-HW.out];repeat (first|exact HO.out|apply Only.alloc))
 have HF:=zAA (show Blk wq w1.heap.size 155 (zBd w.heap.size).toArray from by rw[<-HW.out];repeat (first|exact HF.out|apply Blk.alloc))
 have hb:Blk wq (w2.heap.size) 155 #[.int .i64 4,.func (.func 169) #[] #[.pointer (some ⟨w1.heap.size+1,0,none⟩)],.func (.func 170) #[] #[.pointer (some ⟨w1.heap.size+1,0,none⟩)],.nilFunc]:=by rw[<-HW.out];repeat (first|exact zAl (by simp)|apply Blk.alloc)
 have t00:=hb.cell 0;have t01:=hb.cell 1;have t02:=hb.cell 2;have t03:=hb.cell 3
 clear hb
 simp at t00 t01 t02 t03
 have hb:Blk wq (w2.heap.size+1+1+1+1) 155 #[.int .i64 8,.func (.func 160) #[] #[],.func (.func 161) #[] #[],.nilFunc]:=by rw[<-HW.out];repeat (first|exact zAl (by simp)|apply Blk.alloc)
 have t40:=hb.cell 0;have t41:=hb.cell 1;have t42:=hb.cell 2;have t43:=hb.cell 3
 clear hb
 simp at t40 t41 t42 t43
 have hb:Blk wq (w2.heap.size+1+1+1+1+1) 155 #[.int .i64 0,.nilFunc,.nilFunc,.func (.func 162) #[] #[]]:=by rw[<-HW.out];repeat (first|exact zAl (by simp)|apply Blk.alloc)
 have t50:=hb.cell 0;have t51:=hb.cell 1;have t52:=hb.cell 2;have t53:=hb.cell 3
 clear hb
 simp at t50 t51 t52 t53
 clear HW hst hsn
 go_wp2_with fail
 go_ret
 exact zFm (b1:=w.heap.size) (b2:=w1.heap.size+1) (by have:=HO.out.size;omega) (Nat.le_refl _) (by have:=HZ.out;omega) (zAl (by simp)) (HS.out.alloc _) (HR.out.alloc _) (HO.out.alloc _)
end
section
open Go.Proofs.Tryz
set_option maxHeartbeats 6400000
set_option maxRecDepth 100000
open Go.RowKit Go.Deep

def zAz(s:ByteArray):Bool:=decide (s.size<=65535)&&(zAE s).isSome
theorem zB0(w:World)(s:ByteArray)(hs:s.size<=maxLen):Calls prog 133 #[.string s] w (zAn (zAz s) w):=by
 have HK:=zAA (fun W=>zBi W s hs)
 unfold zB3 at HK
 have hkz:(zAg s != 0)=(zAE s).isSome:=by
  unfold zAg
  cases h:zAE s with
  | none=>rfl
  | some nd =>
   obtain⟨k,n,b,l⟩:=nd
   have:=zEH h
   simp only[Option.isSome_some]
   rw[bne_iff_ne]
   omega
 unfold maxLen at hs
 by_cases h:s.size<=65535
 ·have hI:(s.size:Int)<=65535:=by omega
  have HV:=zAA (show zAz s=(zAE s).isSome by unfold zAz;rw[decide_eq_true h,Bool.true_and])
  generalize zAg s=k at *
  generalize (zAE s).isSome=r at *
  clear h
  cases r
  all_goals
   go_enter func133,ntmps133
   go_wp2_with (go_at_call 51;refine(HK.out _).mono ?_;rintro e w1 ⟨rfl,ho⟩;have HC:=zAA ho;clear ho)
   go_ret
   exact zBz HV.out HC.out
 ·have hI:¬(s.size:Int)<=65535:=by omega
  have HV:=zAA (show zAz s=false by unfold zAz;rw[decide_eq_false h,Bool.false_and])
  clear h
  go_enter func133,ntmps133
  go_wp2_with fail
  go_ret
  exact zBz HV.out (Only.refl _ _)
end
section
open Go.Proofs.Tryz
set_option maxHeartbeats 3200000
set_option maxRecDepth 100000
open Go.RowKit Go.Deep

theorem zKu(k:Int)(h1:(k==1)=false)(h2:(k==2)=false)(h3:(k==3)=false)(h4:(k==4)=false)(w:World):Calls prog 132 #[.int .i64 k] w fun e w'=>e=.returned (.slice none 0 0)∧Only [] w w':=by
 have hst:=fun(W:World) (a:Addr) (fn:Fn) (c:Array Value)=>(run_store prog W a (.func fn #[] c) .plain rfl:(store a (.func fn #[] c)).run prog W=stored prog W a (.func fn #[] c) .plain)
 have hsn:=fun(W:World) (a:Addr)=>(run_store prog W a .nilFunc .plain rfl:(store a .nilFunc).run prog W=stored prog W a .nilFunc .plain)
 have HO:=zAA (Only.refl [] w)
 go_enter func132,ntmps132
 go_wp2_with (go_at_call 149;refine(zCE _ _).mono ?_;rintro e w1 ⟨rfl,hb1,hs1,ho1⟩;(first|(have HO:=zAA (HO.out.trans ho1))|(have HO:=zAA ((HO.out.alloc _).trans ho1)));clear hb1 hs1 ho1)
 go_ret
 exact⟨rfl,by repeat (first|exact HO.out|apply Only.alloc)⟩
end
section
open Go.RowKit Go.Deep

theorem zEy{w:World}{R:Nat}{t:TypeId}{a0 a1 a2 a3 a4 a5 a6 a7 a8 a9 a10 a11 a12:Value}(h:Blk w R t #[a0,a1,a2,a3,a4,a5,a6,a7,a8,a9,a10,a11,a12])(v0 v1 v2 v3 v4 v5 v6 v7 v8 v9 v10 v11 v12:Value):Blk (((((((((((((w.setCell ⟨R,0,none⟩ v0).setCell ⟨R,1,none⟩ v1).setCell ⟨R,2,none⟩ v2).setCell ⟨R,3,none⟩ v3).setCell ⟨R,4,none⟩ v4).setCell ⟨R,5,none⟩ v5).setCell ⟨R,6,none⟩ v6).setCell ⟨R,7,none⟩ v7).setCell ⟨R,8,none⟩ v8).setCell ⟨R,9,none⟩ v9).setCell ⟨R,10,none⟩ v10).setCell ⟨R,11,none⟩ v11).setCell ⟨R,12,none⟩ v12) R t #[v0,v1,v2,v3,v4,v5,v6,v7,v8,v9,v10,v11,v12]:=by
 have h2:=(((((((((((((h.set_ 0 v0).set_ 1 v1).set_ 2 v2).set_ 3 v3).set_ 4 v4).set_ 5 v5).set_ 6 v6).set_ 7 v7).set_ 8 v8).set_ 9 v9).set_ 10 v10).set_ 11 v11).set_ 12 v12)
 simp only[List.setIfInBounds_toArray,List.set_cons_zero,List.set_cons_succ]at h2
 exact h2
theorem zDN{S:List Nat}{a w:World}{R:Nat}(h:Only S a w)(hR:R∈S∨a.heap.size<=R)(v0 v1 v2 v3 v4 v5 v6 v7 v8 v9 v10 v11 v12:Value):Only S a (((((((((((((w.setCell ⟨R,0,none⟩ v0).setCell ⟨R,1,none⟩ v1).setCell ⟨R,2,none⟩ v2).setCell ⟨R,3,none⟩ v3).setCell ⟨R,4,none⟩ v4).setCell ⟨R,5,none⟩ v5).setCell ⟨R,6,none⟩ v6).setCell ⟨R,7,none⟩ v7).setCell ⟨R,8,none⟩ v8).setCell ⟨R,9,none⟩ v9).setCell ⟨R,10,none⟩ v10).setCell ⟨R,11,none⟩ v11).setCell ⟨R,12,none⟩ v12) :=
 (((((((((((((h.setCell (p:=⟨R,0,none⟩) hR v0).setCell (p:=⟨R,1,none⟩) hR v1).setCell (p:=⟨R,2,none⟩) hR v2).setCell (p:=⟨R,3,none⟩) hR v3).setCell (p:=⟨R,4,none⟩) hR v4).setCell (p:=⟨R,5,none⟩) hR v5).setCell (p:=⟨R,6,none⟩) hR v6).setCell (p:=⟨R,7,none⟩) hR v7).setCell (p:=⟨R,8,none⟩) hR v8).setCell (p:=⟨R,9,none⟩) hR v9).setCell (p:=⟨R,10,none⟩) hR v10).setCell (p:=⟨R,11,none⟩) hR v11).setCell (p:=⟨R,12,none⟩) hR v12)
end
section
open Go.RowKit Go.Deep

def zEz(ts:List ByteArray):List Value:=ts.map .string
end
section
open Go.RowKit Go.Deep

def noT:ByteArray:=⟨#[]⟩
def zAU(m:Mg):List ByteArray:=if m.k=1 then [m.x4,m.x5,m.x6,m.x11,m.x12]else if m.k=2 then [m.x4,m.x7,m.x11,m.x12]else if m.k=3 then [m.x8,m.x9]else [m.x10]
def zBU(m:Mg):Mg :=
 if m.k=1 then ⟨1,m.s,0,0,m.x4,m.x5,m.x6,noT,noT,noT,noT,m.x11,m.x12⟩
 else if m.k=2 then ⟨2,m.s,m.r,0,m.x4,noT,noT,m.x7,noT,noT,noT,m.x11,m.x12⟩
 else if m.k=3 then ⟨3,0,m.r,0,noT,noT,noT,noT,m.x8,m.x9,noT,noT,noT⟩
 else ⟨4,0,m.r,m.c,noT,noT,noT,noT,noT,noT,m.x10,noT,noT⟩
def zAG(m:Mg):Bool:=decide (1<=m.k∧m.k<=4)&&((zAU m).all zAz&&eqM (zBU m) m)
structure Mg.Fine (m:Mg):Prop where
 s:m.s<4294967296
 r:m.r<4294967296
 c:m.c<18446744073709551616
 x4:m.x4.size<=maxLen
 x5:m.x5.size<=maxLen
 x6:m.x6.size<=maxLen
 x7:m.x7.size<=maxLen
 x8:m.x8.size<=maxLen
 x9:m.x9.size<=maxLen
 x10:m.x10.size<=maxLen
 x11:m.x11.size<=maxLen
 x12:m.x12.size<=maxLen

def zBw(n:Nat)(C:Nat->Nat->List Value)(b:Bool)(w:World)(e:Ending)(w':World):Prop :=
 ∃fv,e=.returned (.tuple #[fv,.bool b])∧Only [] w w'∧(b=true->∃g b1 b2,fv=.slice (some ⟨g,0,none⟩) n n∧w.heap.size<=g∧w.heap.size<=b1∧w.heap.size<=b2∧Blk w' g 155 (C b1 b2).toArray ∧
  Blk w' b1 205 #[fnV 150]∧Blk w' b2 205 #[fnV 151])
theorem zB1{n:Nat}{C:Nat->Nat->List Value}{b:Bool}{fv:Value}{w w':World}(h:b=false)(ho:Only [] w w'):zBw n C b w (.returned (.tuple #[fv,.bool false])) w':=by
 subst h
 exact⟨fv,rfl,ho,fun h=>by cases h⟩
theorem zFn{n:Nat}{C:Nat->Nat->List Value}{b b':Bool}{w w':World}{g b1 b2:Nat}(h:b=b')(h1:w.heap.size<=g)(h2:w.heap.size<=b1)(h3:w.heap.size<=b2)(h4:Blk w' g 155 (C b1 b2).toArray)
  (h5:Blk w' b1 205 #[fnV 150]) (h6:Blk w' b2 205 #[fnV 151]) (h7:Only [] w w'):zBw n C b w (.returned (.tuple #[.slice (some ⟨g,0,none⟩) n n,.bool b'])) w':=by
 subst h
 exact⟨_,rfl,h7,fun _=>⟨g,b1,b2,rfl,h1,h2,h3,h4,h5,h6⟩⟩
end
section
open Go.RowKit Go.Deep

theorem zGx(B:Nat)(w:World):Below B w w:=⟨rfl,rfl,rfl,Nat.le_refl _,fun _ _=>rfl⟩
theorem zGP{B:Nat}{w w' w2:World}(h:Below B w w'){row:Option Nat}(hg:w'.grownBy w2 row)(hr:∀k,row=some k->B<=k)(hB:B<=w'.heap.size):Below B w w2 :=
 ⟨hg.os.trans h.os,hg.tape.trans h.tape,hg.output.trans h.output,Nat.le_trans h.size hg.size,fun i hi=>(hg.block i (by omega) (fun e=>by have:=hr i e.symm;omega)).trans (h.block i hi)⟩
end
section
open Go.RowKit Go.Deep

theorem zBX{x:ByteArray}(h:zAz x=true):x.size<=65535:=by
 unfold zAz at h
 rw[Bool.and_eq_true]at h
 exact of_decide_eq_true h.1
theorem zA2{S:List Nat}{B:Nat}{w u u':World}(h:Only S w u)(hb:Below B u u')(hB:w.heap.size<=B):Only S w u' :=
 ⟨hb.os.trans h.os,hb.tape.trans h.tape,hb.output.trans h.output,Nat.le_trans h.size hb.size,fun i hi hn=>(hb.block i (by omega)).trans (h.block i hi hn)⟩
theorem zBI{B:Nat}{w w2:World}{row:Option Nat}(hg:w.grownBy w2 row)(hr:∀k,row=some k->B<=k)(hB:B<=w.heap.size):Below B w w2:=zGP (zGx B w) hg hr hB
def zAp(m:Mg)(w:World)(e:Ending)(w':World):Prop :=
 Only [] w w'∧if zAG m=true then ∃v,e=.returned v∧Rd w' [] v (zEz (zAU m))else e=.returned (.slice none 0 0)
theorem zDg{m:Mg}{w w':World}(h:zAG m=false)(ho:Only [] w w'):zAp m w (.returned (.slice none 0 0)) w':=⟨ho,by rw[if_neg (by rw[h];decide)]⟩
theorem zDh{m:Mg}{w w':World}{v:Value}{l:List ByteArray}{B n:Nat}(h:zAG m=true)(hl:zAU m=l)(ho:Only [] w w')(hown:w'.ownsRow B 9 1 v n (zEz l)):zAp m w (.returned v) w' :=
 ⟨ho,by rw[if_pos h,hl];exact⟨v,rfl,(Rd.of_own (N:=[]) hown (by simp)).1⟩⟩
end
end Go.Proofs.YtfipdjlalfpbnaaGreatDoor
