/-
  Walks and plain words (texts Pg2, Ph0, Phc). No condition beyond those that each theorem states.
-/
import Derived.Test.YtfipdjlalfpbnaaGreatDoorB06
namespace Go.Proofs.YtfipdjlalfpbnaaGreatDoor
section
open Go.Proofs.Tryz
open Go.RowKit Go.Deep

theorem zB2{l:List Pac}{i:Nat}{a:Pac}(h:l[i]?=some a){w:World}{N:List Nat}{g o n cap:Nat}(hr:RdS 17 acC w N (.slice (some ⟨g,o,none⟩) n cap) l) :
  w.cell? ⟨g,o+i*17,none⟩=some (.int .u8 (a.k:Nat))∧w.cell? ⟨g,o+i*17+1,none⟩=some (.int .i64 a.now)∧w.cell? ⟨g,o+i*17+2,none⟩=some (a.v)∧w.cell? ⟨g,o+i*17+3,none⟩=some (.int .u64 (a.n:Nat))∧w.cell? ⟨g,o+i*17+4,none⟩=some (.int .i64 a.m.k)∧w.cell? ⟨g,o+i*17+5,none⟩=some (.int .u32 (a.m.s:Nat))∧w.cell? ⟨g,o+i*17+6,none⟩=some (.int .u32 (a.m.r:Nat))∧w.cell? ⟨g,o+i*17+7,none⟩=some (.int .u64 (a.m.c:Nat))∧w.cell? ⟨g,o+i*17+8,none⟩=some (.string a.m.x4)∧w.cell? ⟨g,o+i*17+9,none⟩=some (.string a.m.x5)∧w.cell? ⟨g,o+i*17+10,none⟩=some (.string a.m.x6)∧w.cell? ⟨g,o+i*17+11,none⟩=some (.string a.m.x7)∧w.cell? ⟨g,o+i*17+12,none⟩=some (.string a.m.x8)∧w.cell? ⟨g,o+i*17+13,none⟩=some (.string a.m.x9)∧w.cell? ⟨g,o+i*17+14,none⟩=some (.string a.m.x10)∧w.cell? ⟨g,o+i*17+15,none⟩=some (.string a.m.x11)∧w.cell? ⟨g,o+i*17+16,none⟩=some (.string a.m.x12):=by
 have h0:=hr.cell h (j:=0) (u:=.int .u8 (a.k:Nat)) rfl
 have h1:=hr.cell h (j:=1) (u:=.int .i64 a.now) rfl
 have h2:=hr.cell h (j:=2) (u:=a.v) rfl
 have h3:=hr.cell h (j:=3) (u:=.int .u64 (a.n:Nat)) rfl
 have h4:=hr.cell h (j:=4) (u:=.int .i64 a.m.k) rfl
 have h5:=hr.cell h (j:=5) (u:=.int .u32 (a.m.s:Nat)) rfl
 have h6:=hr.cell h (j:=6) (u:=.int .u32 (a.m.r:Nat)) rfl
 have h7:=hr.cell h (j:=7) (u:=.int .u64 (a.m.c:Nat)) rfl
 have h8:=hr.cell h (j:=8) (u:=.string a.m.x4) rfl
 have h9:=hr.cell h (j:=9) (u:=.string a.m.x5) rfl
 have h10:=hr.cell h (j:=10) (u:=.string a.m.x6) rfl
 have h11:=hr.cell h (j:=11) (u:=.string a.m.x7) rfl
 have h12:=hr.cell h (j:=12) (u:=.string a.m.x8) rfl
 have h13:=hr.cell h (j:=13) (u:=.string a.m.x9) rfl
 have h14:=hr.cell h (j:=14) (u:=.string a.m.x10) rfl
 have h15:=hr.cell h (j:=15) (u:=.string a.m.x11) rfl
 have h16:=hr.cell h (j:=16) (u:=.string a.m.x12) rfl
 refine⟨h0,?_,?_,?_,?_,?_,?_,?_,?_,?_,?_,?_,?_,?_,?_,?_,?_⟩
 ·rw[Nat.add_assoc];exact h1
 ·rw[Nat.add_assoc];exact h2
 ·rw[Nat.add_assoc];exact h3
 ·rw[Nat.add_assoc];exact h4
 ·rw[Nat.add_assoc];exact h5
 ·rw[Nat.add_assoc];exact h6
 ·rw[Nat.add_assoc];exact h7
 ·rw[Nat.add_assoc];exact h8
 ·rw[Nat.add_assoc];exact h9
 ·rw[Nat.add_assoc];exact h10
 ·rw[Nat.add_assoc];exact h11
 ·rw[Nat.add_assoc];exact h12
 ·rw[Nat.add_assoc];exact h13
 ·rw[Nat.add_assoc];exact h14
 ·rw[Nat.add_assoc];exact h15
 ·rw[Nat.add_assoc];exact h16
structure PaI (w:World) (g1 c1 g2 c2 R1 R2 B:Nat) (s1 s2:ByteArray) (lo re:Nat) (beg:Bool) (made:Int) (i n:Nat) (L:List Nat) (sent:List Mg) (sv:Value) (wr:World):Prop where
 p:PairIs wr g1 c1 s1 s2 lo re beg made n
 q:PairIs wr g2 c2 s2 s1 re lo (!beg) made 0
 qw:WinSet wr c2 L
 m:Blk wr R1 53 #[.string s1,.string s2,.int .u32 (lo:Nat),.int .u32 (re:Nat),.bool beg,.int .i64 made,.int .u64 (n:Nat),.slice none 0 0]
 k:∃A l c,Blk wr R2 53 #[.string s2,.string s1,.int .u32 (re:Nat),.int .u32 (lo:Nat),.bool !beg,.int .i64 made,.int .u64 (0:Nat),.slice A l c]∧Rd wr ([g1,c1,g2,c2,R1,R2]++sv.ownBlock.toList) (.slice A l c) (zBR .u64 (zC9 L))
 own:wr.ownsRow B 25 13 sv sent.length (sent.flatMap fun m=>m.cells.toList)
 lt:∀x∈[g1,c1,g2,c2,R1,R2],w.heap.size<=x∧x<B
 nd:[g1,c1,g2,c2,R1,R2].Nodup
 on:Only [] w wr
 n2:n<18446744073709551616
 len:L.length<=i
 sl:sent.length<=i
 inc:sent.Pairwise fun a b=>a.c<b.c
 lts:∀m∈sent,m.c<n
 fine:∀m∈sent,m.Fine
 hB:B<=wr.heap.size
 tw:Tab w
theorem PaI.only{w:World}{g1 c1 g2 c2 R1 R2 B:Nat}{s1 s2:ByteArray}{lo re:Nat}{beg:Bool}{made:Int}{i n:Nat}{L:List Nat}{sent:List Mg}{sv:Value}{wr w':World}(h:PaI w g1 c1 g2 c2 R1 R2 B s1 s2 lo re beg made i n L sent sv wr)(ho:Only [] wr w'):PaI w g1 c1 g2 c2 R1 R2 B s1 s2 lo re beg made i n L sent sv w':=by
 obtain⟨A,l,c,h1,h2⟩:=h.k
 exact⟨h.p.only ho (by simp),h.q.only ho (by simp),h.qw.only ho (by simp),h.m.only ho (by simp),⟨A,l,c,h1.only ho (by simp),h2.only ho (by simp)⟩,zAa h.own ho (by simp),h.lt,h.nd,h.on.trans ho,h.n2,h.len,h.sl,h.inc,h.lts,h.fine,Nat.le_trans h.hB ho.size,h.tw⟩
theorem PaI.next{w:World}{g1 c1 g2 c2 R1 R2 B:Nat}{s1 s2:ByteArray}{lo re:Nat}{beg:Bool}{made:Int}{i n:Nat}{L:List Nat}{sent:List Mg}{sv:Value}{wr:World}(h:PaI w g1 c1 g2 c2 R1 R2 B s1 s2 lo re beg made i n L sent sv wr):PaI w g1 c1 g2 c2 R1 R2 B s1 s2 lo re beg made (i+1) n L sent sv wr :=
 ⟨h.p,h.q,h.qw,h.m,h.k,h.own,h.lt,h.nd,h.on,h.n2,Nat.le_succ_of_le h.len,Nat.le_succ_of_le h.sl,h.inc,h.lts,h.fine,h.hB,h.tw⟩
theorem zG7(w:World)(e base:Nat)(hB:base<=w.heap.size):(w.alloc (.cells #[] e)).ownsRow base e 13 (.slice (some ⟨w.heap.size,0,none⟩) 0 0) 0 [] :=
 ⟨rfl,.inr ⟨w.heap.size,0,#[],rfl,hB,heap_alloc_new w _,Nat.le_refl _,Nat.zero_le _,rfl,rfl⟩⟩
theorem zLM{w v:World}{g1 c1 g2 c2 R1 R2:Nat}{s1 s2:ByteArray}{lo re:Nat}{beg:Bool}{made:Int}(h1:PairIs v g1 c1 s1 s2 lo re beg made 0)(h2:PairIs v g2 c2 s2 s1 re lo (!beg) made 0)(h3:Blk v c2 165 zDP)(h4:Blk v R1 53 #[.string s1,.string s2,.int .u32 (lo:Nat),.int .u32 (re:Nat),.bool beg,.int .i64 made,.int .u64 (0:Nat),.slice none 0 0])(h5:Blk v R2 53 #[.string s2,.string s1,.int .u32 (re:Nat),.int .u32 (lo:Nat),.bool !beg,.int .i64 made,.int .u64 (0:Nat),.slice none 0 0])
  (hl:∀x∈[g1,c1,g2,c2,R1,R2],w.heap.size<=x∧x<v.heap.size) (hn:[g1,c1,g2,c2,R1,R2].Nodup) (ho:Only [] w v) (ht:Tab w):PaI w g1 c1 g2 c2 R1 R2 v.heap.size s1 s2 lo re beg made 0 0 [] [] (.slice (some ⟨v.heap.size,0,none⟩) 0 0) (v.alloc (.cells #[] 25)):=by
 have hoa:=(Only.refl [] v).alloc (.cells #[] 25)
 exact⟨h1.only hoa (by simp),h2.only hoa (by simp),(zHT h3).only hoa (by simp),h4.only hoa (by simp),⟨none,0,0,h5.only hoa (by simp),Rd.nil _ _⟩,zG7 v _ _ (Nat.le_refl _),hl,hn,ho.trans hoa,by omega,Nat.zero_le _,Nat.zero_le _,List.Pairwise.nil,by simp,by simp,hoa.size,ht⟩
structure PaM (w:World) (g1 c1 g2 c2 R1 R2 B:Nat) (s1 s2:ByteArray) (lo re:Nat) (beg:Bool) (made:Int) (np nm:Nat) (Lq Lk:List Nat) (A:Option Addr) (l c:Nat) (sent:List Mg) (sv:Value) (wr:World):Prop where
 p:PairIs wr g1 c1 s1 s2 lo re beg made np
 q:PairIs wr g2 c2 s2 s1 re lo (!beg) made 0
 qw:WinSet wr c2 Lq
 m:Blk wr R1 53 #[.string s1,.string s2,.int .u32 (lo:Nat),.int .u32 (re:Nat),.bool beg,.int .i64 made,.int .u64 (nm:Nat),.slice none 0 0]
 k:Blk wr R2 53 #[.string s2,.string s1,.int .u32 (re:Nat),.int .u32 (lo:Nat),.bool !beg,.int .i64 made,.int .u64 (0:Nat),.slice A l c]
 kr:Rd wr ([g1,c1,g2,c2,R1,R2]++sv.ownBlock.toList) (.slice A l c) (zBR .u64 (zC9 Lk))
 own:wr.ownsRow B 25 13 sv sent.length (sent.flatMap fun m=>m.cells.toList)
 lt:∀x∈[g1,c1,g2,c2,R1,R2],w.heap.size<=x∧x<B
 nd:[g1,c1,g2,c2,R1,R2].Nodup
 on:Only [] w wr
 hB:B<=wr.heap.size
theorem PaI.mem{w:World}{g1 c1 g2 c2 R1 R2 B:Nat}{s1 s2:ByteArray}{lo re:Nat}{beg:Bool}{made:Int}{i n:Nat}{L:List Nat}{sent:List Mg}{sv:Value}{wr:World}(h:PaI w g1 c1 g2 c2 R1 R2 B s1 s2 lo re beg made i n L sent sv wr):∃A l c,PaM w g1 c1 g2 c2 R1 R2 B s1 s2 lo re beg made n n L L A l c sent sv wr:=by
 obtain⟨A,l,c,h1,h2⟩:=h.k
 exact⟨A,l,c,h.p,h.q,h.qw,h.m,h1,h2,h.own,h.lt,h.nd,h.on,h.hB⟩
theorem PaM.back{w:World}{g1 c1 g2 c2 R1 R2 B:Nat}{s1 s2:ByteArray}{lo re:Nat}{beg:Bool}{made:Int}{i n:Nat}{L:List Nat}{A:Option Addr}{l c:Nat}{sent:List Mg}{sv:Value}{wr:World}(h:PaM w g1 c1 g2 c2 R1 R2 B s1 s2 lo re beg made n n L L A l c sent sv wr)(n2:n<18446744073709551616)(len:L.length<=i)(sl:sent.length<=i)(inc:sent.Pairwise fun a b=>a.c<b.c)(lts:∀m∈sent,m.c<n)(fine:∀m∈sent,m.Fine)(tw:Tab w):PaI w g1 c1 g2 c2 R1 R2 B s1 s2 lo re beg made i n L sent sv wr :=
 ⟨h.p,h.q,h.qw,h.m,⟨A,l,c,h.k,h.kr⟩,h.own,h.lt,h.nd,h.on,n2,len,sl,inc,lts,fine,h.hB,tw⟩
theorem zC8{S:List Nat}{w wr w':World}(h:Only [] w wr)(ho:Only S wr w')(hS:∀x∈S,w.heap.size<=x):Only [] w w' :=
 ((h.mono (S':=S) (by simp)).trans ho).mono fun x hx=>.inr (hS x hx)
section
variable {w:World} {g1 c1 g2 c2 R1 R2 B:Nat} {s1 s2:ByteArray} {lo re:Nat} {beg:Bool} {made:Int} {np nm:Nat} {Lq Lk:List Nat} {A:Option Addr} {l c:Nat} {sent:List Mg} {sv:Value} {wr w':World}
theorem PaM.only(h:PaM w g1 c1 g2 c2 R1 R2 B s1 s2 lo re beg made np nm Lq Lk A l c sent sv wr)(ho:Only [] wr w'):PaM w g1 c1 g2 c2 R1 R2 B s1 s2 lo re beg made np nm Lq Lk A l c sent sv w' :=
 ⟨h.p.only ho (by simp),h.q.only ho (by simp),h.qw.only ho (by simp),h.m.only ho (by simp),h.k.only ho (by simp),h.kr.only ho (by simp),zAa h.own ho (by simp),h.lt,h.nd,h.on.trans ho,Nat.le_trans h.hB ho.size⟩
theorem PaM.sealed(h:PaM w g1 c1 g2 c2 R1 R2 B s1 s2 lo re beg made np nm Lq Lk A l c sent sv wr){n':Nat}(hp:PairIs w' g1 c1 s1 s2 lo re beg made n')(ho:Only [g1] wr w'):PaM w g1 c1 g2 c2 R1 R2 B s1 s2 lo re beg made n' nm Lq Lk A l c sent sv w':=by
 have hn:=h.nd
 have hl:=h.lt
 simp at hn hl
 exact⟨hp,h.q.only ho (by simp;omega),h.qw.only ho (by simp;omega),h.m.only ho (by simp;omega),h.k.only ho (by simp;omega),h.kr.only ho (by simp),zAa h.own ho (by simp;omega),h.lt,h.nd,zC8 h.on ho (by simp;omega),Nat.le_trans h.hB ho.size⟩
theorem PaM.opened(h:PaM w g1 c1 g2 c2 R1 R2 B s1 s2 lo re beg made np nm Lq Lk A l c sent sv wr){L':List Nat}(hq:PairIs w' g2 c2 s2 s1 re lo (!beg) made 0)(hw:WinSet w' c2 L')(ho:Only [c2] wr w'):PaM w g1 c1 g2 c2 R1 R2 B s1 s2 lo re beg made np nm L' Lk A l c sent sv w':=by
 have hn:=h.nd
 have hl:=h.lt
 simp at hn hl
 exact⟨h.p.only ho (by simp;omega),hq,hw,h.m.only ho (by simp;omega),h.k.only ho (by simp;omega),h.kr.only ho (by simp),zAa h.own ho (by simp;omega),h.lt,h.nd,zC8 h.on ho (by simp;omega),Nat.le_trans h.hB ho.size⟩
theorem PaM.setM(h:PaM w g1 c1 g2 c2 R1 R2 B s1 s2 lo re beg made np nm Lq Lk A l c sent sv wr){n':Nat}(hm:Blk w' R1 53 #[.string s1,.string s2,.int .u32 (lo:Nat),.int .u32 (re:Nat),.bool beg,.int .i64 made,.int .u64 (n':Nat),.slice none 0 0])(ho:Only [R1] wr w'):PaM w g1 c1 g2 c2 R1 R2 B s1 s2 lo re beg made np n' Lq Lk A l c sent sv w':=by
 have hn:=h.nd
 have hl:=h.lt
 simp at hn hl
 exact⟨h.p.only ho (by simp;omega),h.q.only ho (by simp;omega),h.qw.only ho (by simp;omega),hm,h.k.only ho (by simp;omega),h.kr.only ho (by simp),zAa h.own ho (by simp;omega),h.lt,h.nd,zC8 h.on ho (by simp;omega),Nat.le_trans h.hB ho.size⟩
theorem PaM.setK(h:PaM w g1 c1 g2 c2 R1 R2 B s1 s2 lo re beg made np nm Lq Lk A l c sent sv wr){A':Option Addr}{l' c':Nat}{L':List Nat}(hk:Blk w' R2 53 #[.string s2,.string s1,.int .u32 (re:Nat),.int .u32 (lo:Nat),.bool !beg,.int .i64 made,.int .u64 (0:Nat),(.slice A' l' c')])(hr:Rd wr ([g1,c1,g2,c2,R1,R2]++sv.ownBlock.toList) (.slice A' l' c') (zBR .u64 (zC9 L')))(ho:Only [R2] wr w'):PaM w g1 c1 g2 c2 R1 R2 B s1 s2 lo re beg made np nm Lq L' A' l' c' sent sv w':=by
 have hn:=h.nd
 have hl:=h.lt
 simp at hn hl
 exact⟨h.p.only ho (by simp;omega),h.q.only ho (by simp;omega),h.qw.only ho (by simp;omega),h.m.only ho (by simp;omega),hk,hr.only ho (by simp),zAa h.own ho (by simp;omega),h.lt,h.nd,zC8 h.on ho (by simp;omega),Nat.le_trans h.hB ho.size⟩
theorem PaM.appended(h:PaM w g1 c1 g2 c2 R1 R2 B s1 s2 lo re beg made np nm Lq Lk A l c sent sv wr){sent':List Mg}{sv':Value}(hw:w'.ownsRow B 25 13 sv' sent'.length (sent'.flatMap fun m=>m.cells.toList))(hg:wr.grownBy w' sv.ownBlock)(hv:sv'.ownBlock=sv.ownBlock∨sv'.ownBlock=some wr.heap.size):PaM w g1 c1 g2 c2 R1 R2 B s1 s2 lo re beg made np nm Lq Lk A l c sent' sv' w':=by
 have hS:∀x∈sv.ownBlock.toList,B<=x:=by
  intro x hx
  rcases h.own.2 with ⟨h1,_⟩|⟨b,cap,cur,h1,hb,_⟩
  ·subst h1
   simp[Value.ownBlock]at hx
  ·subst h1
   simp[Value.ownBlock]at hx
   omega
 have ho:Only sv.ownBlock.toList wr w':=(Only.refl _ wr).grown hg (fun k hk=>.inl (by simp[hk]))
 have hl:=h.lt
 have far:∀x∈[g1,c1,g2,c2,R1,R2],x∉sv.ownBlock.toList:=fun x hx hy=>by
  have h1:=(hl x hx).2
  have h2:=hS x hy
  omega
 have hk:Rd w' ([g1,c1,g2,c2,R1,R2]++sv'.ownBlock.toList) (.slice A l c) (zBR .u64 (zC9 Lk)):=by
  rcases hv with hv|hv
  ·rw[hv]
   exact h.kr.only ho (fun x hx=>List.mem_append_right _ hx)
  ·rw[hv]
   have h1:=zJy h.kr [wr.heap.size] (by simp)
   exact(h1.only ho (fun x hx=>List.mem_append_right _ (List.mem_append_right _ hx))).less (fun x hx=>by
    rcases List.mem_append.1 hx with hx|hx
    ·exact List.mem_append_right _ (List.mem_append_left _ hx)
    ·exact List.mem_append_left _ (by simpa using hx))
 exact⟨h.p.only ho (far _ (by simp)),h.q.only ho (far _ (by simp)),h.qw.only ho (far _ (by simp)),h.m.only ho (far _ (by simp)),h.k.only ho (far _ (by simp)),hk,hw,h.lt,h.nd,zC8 h.on ho (fun x hx=>by have:=hS x hx;have:=(hl g1 (by simp));omega),Nat.le_trans h.hB ho.size⟩
end
theorem zHp(w:World)(e:TypeId)(cs:Array Value)(B:Nat)(hx:cs.size=13)(hB:w.heap.size<B):Reads (w.alloc (.cells cs e)) B 13 (some ⟨w.heap.size,0,none⟩) 1 cs.toList :=
 ⟨by rw[Array.length_toList,hx],fun _=>⟨_,rfl,hB,fun j u hu=>by rw[zD6,Nat.zero_add,(Blk.new w e cs).cell];simpa using hu⟩⟩
theorem zJ8:(prog.info? 25).map (fun i=>(i.zero,i.size,i.bytes))=some (some (.agg #[.int .i64 0,.int .u32 0,.int .u32 0,.int .u64 0,.string ByteArray.empty,.string ByteArray.empty,.string ByteArray.empty,.string ByteArray.empty,.string ByteArray.empty,.string ByteArray.empty,.string ByteArray.empty,.string ByteArray.empty,.string ByteArray.empty]),13,168):=by kernel_rfl
theorem PaM.low{w:World}{g1 c1 g2 c2 R1 R2 B:Nat}{s1 s2:ByteArray}{lo re:Nat}{beg:Bool}{made:Int}{np nm:Nat}{Lq Lk:List Nat}{A:Option Addr}{l c:Nat}{sent:List Mg}{sv:Value}{wr:World}(h:PaM w g1 c1 g2 c2 R1 R2 B s1 s2 lo re beg made np nm Lq Lk A l c sent sv wr):∀z∈[g1,c1,g2,c2,R1,R2]++sv.ownBlock.toList,z<wr.heap.size:=by
 intro z hz
 rcases List.mem_append.1 hz with hz|hz
 ·have:=(h.lt z hz).2
  have:=h.hB
  omega
 ·rcases h.own.2 with ⟨h1,_⟩|⟨b,cap,cur,h1,hb,hc,_⟩
  ·subst h1
   simp[Value.ownBlock]at hz
  ·subst h1
   simp[Value.ownBlock]at hz
   subst hz
   exact Blk.lt (t:=25) (cs:=cur) hc
end
section
set_option maxRecDepth 1000000
open Go.RowKit Go.Deep

def zCH:Code->Option Code
 | .loop c=>some c
 | .seq a b=>match zCH a with
  | some c=>some c
  | none=>zCH b
 | .block _ c=>zCH c
 | .scope c=>zCH c
 | .cond _ a b=>match zCH a with
  | some c=>some c
  | none=>zCH b
 | _=>none
noncomputable def zDL:Code:=((Tryz.f5.body.bind zCH).getD .skip)
def FRP(g1 g2 R1 R2:Nat)(lv sv:Value)(i:Int)(cc:Nat->Value)(u12 u21 u22 u23 u24 u25 u26 u27 u28 u29 u30 u31 u32 u33 u34 u35 u36 u37 u38 u142 u143 u144 u145 u146 u147 u148 u149 u150 u151 u152 u153 u154 u155 u156 u157 u158 u159 u160 u161 u162 u163 u164 u165 u166 u167 u168 u169 u170 u171 u172 u173 u174 u175 u176 u177 u178 u179 u180 u181 u182 u183 u184 u185 u186 u187 u188 u189 u190 u191 u192 u193 u194 u195 u196 u197 u198 u199 u200 u201 u202 u203 u204 u205 u206 u207 u208 u209 u210 u211 u212 u213 u214 u215 u216 u217 u218 u219 u220 u221 u222 u223 u224 u225 u226 u227 u228 u229 u230 u231 u232 u233 u234 u235 u236 u237 u238 u239 u240 u241 u242 u243 u244 u245 u246 u247 u248 u249 u250 u251 u252 u253 u254 u255 u256 u257 u258 u259 u260 u261 u262 u263 u264 u265 u266 u267 u268 u269 u270 u271 u272 u273 u274 u275 u276 u277 u278 u279 u280 u281 u282 u283 u284 u285 u286 u287 u288 u289 u290 u291 u292 u293 u294 u295 u296 u297 u298 u299 u300 u301 u302 u303 u304:Value):Act:=⟨#[cc 0,cc 1,cc 2,cc 3,cc 4,lv,cc 6,cc 7,cc 8,cc 9,cc 10,cc 11,u12,.pointer (some ⟨g1,0,none⟩),cc 14,.pointer (some ⟨g2,0,none⟩),cc 16,.pointer (some ⟨R1,0,none⟩),.pointer (some ⟨R2,0,none⟩),sv,.int .i64 i,u21,u22,u23,u24,u25,u26,u27,u28,u29,u30,u31,u32,u33,u34,u35,u36,u37,u38,cc 39,cc 40,cc 41,cc 42,cc 43,cc 44,cc 45,cc 46,cc 47,cc 48,cc 49,cc 50,cc 51,cc 52,cc 53,cc 54,cc 55,cc 56,cc 57,cc 58,cc 59,cc 60,cc 61,cc 62,cc 63,cc 64,cc 65,cc 66,cc 67,cc 68,cc 69,cc 70,cc 71,cc 72,cc 73,cc 74,cc 75,cc 76,cc 77,cc 78,cc 79,cc 80,cc 81,cc 82,cc 83,cc 84,cc 85,cc 86,cc 87,cc 88,cc 89,cc 90,cc 91,cc 92,cc 93,cc 94,cc 95,cc 96,cc 97,cc 98,cc 99,cc 100,cc 101,cc 102,cc 103,cc 104,cc 105,cc 106,cc 107,cc 108,cc 109,cc 110,cc 111,cc 112,cc 113,cc 114,cc 115,cc 116,cc 117,cc 118,cc 119,cc 120,cc 121,cc 122,cc 123,cc 124,cc 125,cc 126,cc 127,cc 128,cc 129,cc 130,cc 131,cc 132,cc 133,cc 134,cc 135,cc 136,cc 137,cc 138,cc 139,cc 140,cc 141,u142,u143,u144,u145,u146,u147,u148,u149,u150,u151,u152,u153,u154,u155,u156,u157,u158,u159,u160,u161,u162,u163,u164,u165,u166,u167,u168,u169,u170,u171,u172,u173,u174,u175,u176,u177,u178,u179,u180,u181,u182,u183,u184,u185,u186,u187,u188,u189,u190,u191,u192,u193,u194,u195,u196,u197,u198,u199,u200,u201,u202,u203,u204,u205,u206,u207,u208,u209,u210,u211,u212,u213,u214,u215,u216,u217,u218,u219,u220,u221,u222,u223,u224,u225,u226,u227,u228,u229,u230,u231,u232,u233,u234,u235,u236,u237,u238,u239,u240,u241,u242,u243,u244,u245,u246,u247,u248,u249,u250,u251,u252,u253,u254,u255,u256,u257,u258,u259,u260,u261,u262,u263,u264,u265,u266,u267,u268,u269,u270,u271,u272,u273,u274,u275,u276,u277,u278,u279,u280,u281,u282,u283,u284,u285,u286,u287,u288,u289,u290,u291,u292,u293,u294,u295,u296,u297,u298,u299,u300,u301,u302,u303,u304,cc 305,cc 306,cc 307,cc 308,cc 309,cc 310,cc 311,cc 312,cc 313,cc 314,cc 315,cc 316,cc 317,cc 318,cc 319,cc 320,cc 321,cc 322,cc 323,cc 324,cc 325,cc 326],[]⟩
def PWI(w:World)(g1 c1 g2 c2 R1 R2 B:Nat)(s1 s2:ByteArray)(lo re:Nat)(beg:Bool)(made:Int)(lv:Value)(cc:Nat->Value)(i:Nat)(a:Act)(wr:World):Prop :=
 ∃(u12 u21 u22 u23 u24 u25 u26 u27 u28 u29 u30 u31 u32 u33 u34 u35 u36 u37 u38 u142 u143 u144 u145 u146 u147 u148 u149 u150 u151 u152 u153 u154 u155 u156 u157 u158 u159 u160 u161 u162 u163 u164 u165 u166 u167 u168 u169 u170 u171 u172 u173 u174 u175 u176 u177 u178 u179 u180 u181 u182 u183 u184 u185 u186 u187 u188 u189 u190 u191 u192 u193 u194 u195 u196 u197 u198 u199 u200 u201 u202 u203 u204 u205 u206 u207 u208 u209 u210 u211 u212 u213 u214 u215 u216 u217 u218 u219 u220 u221 u222 u223 u224 u225 u226 u227 u228 u229 u230 u231 u232 u233 u234 u235 u236 u237 u238 u239 u240 u241 u242 u243 u244 u245 u246 u247 u248 u249 u250 u251 u252 u253 u254 u255 u256 u257 u258 u259 u260 u261 u262 u263 u264 u265 u266 u267 u268 u269 u270 u271 u272 u273 u274 u275 u276 u277 u278 u279 u280 u281 u282 u283 u284 u285 u286 u287 u288 u289 u290 u291 u292 u293 u294 u295 u296 u297 u298 u299 u300 u301 u302 u303 u304:Value) (n:Nat) (L:List Nat) (sent:List Mg) (sv:Value),a=FRP g1 g2 R1 R2 (lv) sv (i) cc u12 u21 u22 u23 u24 u25 u26 u27 u28 u29 u30 u31 u32 u33 u34 u35 u36 u37 u38 u142 u143 u144 u145 u146 u147 u148 u149 u150 u151 u152 u153 u154 u155 u156 u157 u158 u159 u160 u161 u162 u163 u164 u165 u166 u167 u168 u169 u170 u171 u172 u173 u174 u175 u176 u177 u178 u179 u180 u181 u182 u183 u184 u185 u186 u187 u188 u189 u190 u191 u192 u193 u194 u195 u196 u197 u198 u199 u200 u201 u202 u203 u204 u205 u206 u207 u208 u209 u210 u211 u212 u213 u214 u215 u216 u217 u218 u219 u220 u221 u222 u223 u224 u225 u226 u227 u228 u229 u230 u231 u232 u233 u234 u235 u236 u237 u238 u239 u240 u241 u242 u243 u244 u245 u246 u247 u248 u249 u250 u251 u252 u253 u254 u255 u256 u257 u258 u259 u260 u261 u262 u263 u264 u265 u266 u267 u268 u269 u270 u271 u272 u273 u274 u275 u276 u277 u278 u279 u280 u281 u282 u283 u284 u285 u286 u287 u288 u289 u290 u291 u292 u293 u294 u295 u296 u297 u298 u299 u300 u301 u302 u303 u304∧PaI w g1 c1 g2 c2 R1 R2 B s1 s2 lo re beg made i n L sent sv wr∧Tab wr
end
section
open Go.RowKit Go.Deep

theorem zAB{w:World}{g:Nat}{t:TypeId}{v0 v1 v2 v3 v4 v5 v6 v7:Value}(h:Blk w g t #[v0,v1,v2,v3,v4,v5,v6,v7]):w.cell? ⟨g,0,none⟩=some v0∧w.cell? ⟨g,1,none⟩=some v1∧w.cell? ⟨g,2,none⟩=some v2∧w.cell? ⟨g,3,none⟩=some v3∧w.cell? ⟨g,4,none⟩=some v4∧w.cell? ⟨g,5,none⟩=some v5∧w.cell? ⟨g,6,none⟩=some v6∧w.cell? ⟨g,7,none⟩=some v7 :=
 ⟨h.cell 0,h.cell 1,h.cell 2,h.cell 3,h.cell 4,h.cell 5,h.cell 6,h.cell 7⟩
theorem zBZ{w:World}{g:Nat}{t:TypeId}{v0 v1 v2 v3 v4 v5 v6 v7 v8 v9 v10 v11 v12:Value}(h:Blk w g t #[v0,v1,v2,v3,v4,v5,v6,v7,v8,v9,v10,v11,v12]):w.cell? ⟨g,0,none⟩=some v0∧w.cell? ⟨g,1,none⟩=some v1∧w.cell? ⟨g,2,none⟩=some v2∧w.cell? ⟨g,3,none⟩=some v3∧w.cell? ⟨g,4,none⟩=some v4∧w.cell? ⟨g,5,none⟩=some v5∧w.cell? ⟨g,6,none⟩=some v6∧w.cell? ⟨g,7,none⟩=some v7∧w.cell? ⟨g,8,none⟩=some v8∧w.cell? ⟨g,9,none⟩=some v9∧w.cell? ⟨g,10,none⟩=some v10∧w.cell? ⟨g,11,none⟩=some v11∧w.cell? ⟨g,12,none⟩=some v12 :=
 ⟨h.cell 0,h.cell 1,h.cell 2,h.cell 3,h.cell 4,h.cell 5,h.cell 6,h.cell 7,h.cell 8,h.cell 9,h.cell 10,h.cell 11,h.cell 12⟩
theorem zAH{w:World}{g:Nat}{t:TypeId}{v0 v1 v2 v3 v4 v5 v6 v7 v8 v9 v10 v11 v12 v13 v14 v15 v16:Value}(h:Blk w g t #[v0,v1,v2,v3,v4,v5,v6,v7,v8,v9,v10,v11,v12,v13,v14,v15,v16]):w.cell? ⟨g,0,none⟩=some v0∧w.cell? ⟨g,1,none⟩=some v1∧w.cell? ⟨g,2,none⟩=some v2∧w.cell? ⟨g,3,none⟩=some v3∧w.cell? ⟨g,4,none⟩=some v4∧w.cell? ⟨g,5,none⟩=some v5∧w.cell? ⟨g,6,none⟩=some v6∧w.cell? ⟨g,7,none⟩=some v7∧w.cell? ⟨g,8,none⟩=some v8∧w.cell? ⟨g,9,none⟩=some v9∧w.cell? ⟨g,10,none⟩=some v10∧w.cell? ⟨g,11,none⟩=some v11∧w.cell? ⟨g,12,none⟩=some v12∧w.cell? ⟨g,13,none⟩=some v13∧w.cell? ⟨g,14,none⟩=some v14∧w.cell? ⟨g,15,none⟩=some v15∧w.cell? ⟨g,16,none⟩=some v16 :=
 ⟨h.cell 0,h.cell 1,h.cell 2,h.cell 3,h.cell 4,h.cell 5,h.cell 6,h.cell 7,h.cell 8,h.cell 9,h.cell 10,h.cell 11,h.cell 12,h.cell 13,h.cell 14,h.cell 15,h.cell 16⟩
theorem zBa{w:World}{g o:Nat}{v0 v1 v2 v3 v4 v5 v6 v7 v8 v9 v10 v11 v12 v13 v14 v15 v16:Value}(h0:w.cell? ⟨g,o,none⟩=some v0)(h1:w.cell? ⟨g,o+1,none⟩=some v1)(h2:w.cell? ⟨g,o+2,none⟩=some v2)(h3:w.cell? ⟨g,o+3,none⟩=some v3)(h4:w.cell? ⟨g,o+4,none⟩=some v4)(h5:w.cell? ⟨g,o+5,none⟩=some v5)(h6:w.cell? ⟨g,o+6,none⟩=some v6)(h7:w.cell? ⟨g,o+7,none⟩=some v7)(h8:w.cell? ⟨g,o+8,none⟩=some v8)(h9:w.cell? ⟨g,o+9,none⟩=some v9)(h10:w.cell? ⟨g,o+10,none⟩=some v10)(h11:w.cell? ⟨g,o+11,none⟩=some v11)(h12:w.cell? ⟨g,o+12,none⟩=some v12)(h13:w.cell? ⟨g,o+13,none⟩=some v13)(h14:w.cell? ⟨g,o+14,none⟩=some v14)(h15:w.cell? ⟨g,o+15,none⟩=some v15)(h16:w.cell? ⟨g,o+16,none⟩=some v16):w.rangeAt g o [v0,v1,v2,v3,v4,v5,v6,v7,v8,v9,v10,v11,v12,v13,v14,v15,v16]:=by
 intro j v hv
 match j,hv with
 | 0,hv=>cases hv;exact h0
 | 1,hv=>cases hv;exact h1
 | 2,hv=>cases hv;exact h2
 | 3,hv=>cases hv;exact h3
 | 4,hv=>cases hv;exact h4
 | 5,hv=>cases hv;exact h5
 | 6,hv=>cases hv;exact h6
 | 7,hv=>cases hv;exact h7
 | 8,hv=>cases hv;exact h8
 | 9,hv=>cases hv;exact h9
 | 10,hv=>cases hv;exact h10
 | 11,hv=>cases hv;exact h11
 | 12,hv=>cases hv;exact h12
 | 13,hv=>cases hv;exact h13
 | 14,hv=>cases hv;exact h14
 | 15,hv=>cases hv;exact h15
 | 16,hv=>cases hv;exact h16
 | (j+17),hv=>cases hv
end
end Go.Proofs.YtfipdjlalfpbnaaGreatDoor
