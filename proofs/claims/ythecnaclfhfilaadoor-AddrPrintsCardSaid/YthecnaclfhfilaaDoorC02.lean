/-
  Walks and plain words (texts Atw). No condition beyond those that each theorem states.
-/
import Derived.Test.YthecnaclfhfilaaDoorA15
import Derived.Test.YthecnaclfhfilaaDoorC01
namespace Go.Proofs.YthecnaclfhfilaaDoor
section
open Go.RowKit Go.Deep

theorem same_yes (v u : Value) (l : List UInt8) (N M : List Nat) (w : World) (hx : Rd w N v (ints .u8 (byts l))) (hy : Rd w M u (ints .u8 (byts l))) :
    Calls Tryd.prog 10 #[v, u] w fun e w' => e = .returned (.bool true) ∧ w = w' :=
  (same_bytes v u l l N M w hx hy).mono fun e w' h => ⟨by rw [h.1]; simp, h.2⟩
def TrueS (w : World) (e : Ending) (w' : World) : Prop := e = .returned (.bool true) ∧ Only [] w w'
end
end Go.Proofs.YthecnaclfhfilaaDoor
