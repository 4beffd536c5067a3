/-
  Walks and plain words (texts Ph15). No condition beyond those that each theorem states.
-/
import Derived.Test.YtfipdjlalfpbnaaGreatDoorB16
namespace Go.Proofs.YtfipdjlalfpbnaaGreatDoor
section
open Go.Proofs.Tryz
open Go.RowKit Go.Deep

theorem zGd{w:World}(s1 s2:ByteArray)(h1:s1.size<=maxLen)(h2:s2.size<=maxLen)(lo:Int)(hlo:(Lit.int .u32 lo).wf=true)(re:Int)(hre:(Lit.int .u32 re).wf=true)(beg:Bool)(made:Int)(_hm:(Lit.int .i64 made).wf=true)(v:Value)(l:List Pac)(hl:RdS 17 acC w [] v l∧∀a∈l,zBm w a)(htab:Tab w) :
  Calls prog 5 #[.agg #[.string s1,.string s2],.int .u32 lo,.int .u32 re,.bool beg,.int .i64 made,v] w fun e w'=>e=.returned (.bool true)∧Only [] w w':=by
 obtain⟨x,rfl,hx⟩:=zHo hlo
 obtain⟨y,rfl,hy⟩:=zHo hre
 obtain⟨A,cap,rfl,_,_⟩:=hl.1.form
 by_cases b1:200<s1.size
 ·exact zMM w s1 s2 x y beg made A l.length cap h1 h2 htab b1
 by_cases b2:200<s2.size
 ·exact zMN w s1 s2 x y beg made A l.length cap h1 h2 htab b1 b2
 by_cases b3:40<l.length
 ·exact zMO w s1 s2 x y beg made A l.length cap h1 h2 htab b1 b2 b3
 by_cases k1:zAg s1=0
 ·exact zLJ w s1 s2 x y beg made A l.length cap h1 h2 htab b1 b2 b3 k1
 by_cases k2:zAg s2=0
 ·exact zLK w s1 s2 x y beg made A l.length cap h1 h2 htab b1 b2 b3 k1 k2
 cases ht:zAc made with
 | false=>exact zMP w s1 s2 x y beg made A l.length cap h1 h2 htab b1 b2 b3 k1 k2 ht
 | true =>
  obtain⟨m1,m2⟩:=(zAT made).1 ht
  exact zMX w s1 s2 x y beg made A l.length cap h1 h2 htab b1 b2 b3 k1 k2 m1 m2 hx hy l hl.1 hl.2 rfl
end
end Go.Proofs.YtfipdjlalfpbnaaGreatDoor
