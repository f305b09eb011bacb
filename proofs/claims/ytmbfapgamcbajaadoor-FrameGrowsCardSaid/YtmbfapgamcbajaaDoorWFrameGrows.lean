/- FrameGrows: from what comes in to its walk. -/
import Derived.Test.YtmbfapgamcbajaaDoorHGrows
import Derived.Test.YtmbfapgamcbajaaDoorOFrm
set_option linter.unusedVariables false
namespace Go.Proofs.YtmbfapgamcbajaaDoor.X
open Go.RowKit Go.Proofs.YtmbfapgamcbajaaDoorW.PrintWords Go.Proofs.YtmbfapgamcbajaaDoor
theorem FrameGrows_row (w : World) (x : List Int) (A1 : Option Addr) (n1 c1 : Nat) (y : List Int) (A2 : Option Addr) (n2 c2 : Nat) (kx : Bs.K w x [.slice A1 n1 c1]) (okx : x.length ≤ maxLen ∧ ∀ z ∈ x, (Lit.int .u8 z).wf = true) (ky : Bs.K w y [.slice A2 n2 c2]) (oky : y.length ≤ maxLen ∧ ∀ z ∈ y, (Lit.int .u8 z).wf = true)
    (hL : laidMetH Tryd.prog theList w) (hS : w.ShapedOpen Tryd.prog) :
    Calls Tryd.prog 3 #[.slice A1 n1 c1, .slice A2 n2 c2] w fun e w' => e = .returned (.bool true) ∧ Below w.heap.size w w' := by
  obtain ⟨rfl, h1, h2⟩ := bs_open kx
  obtain ⟨rfl, h3, h4⟩ := bs_open ky
  exact FrameGrows_walk A1 x c1 A2 y c2 w (Ld.of_laid hL hS) h2 h1 h4 h3
end Go.Proofs.YtmbfapgamcbajaaDoor.X
