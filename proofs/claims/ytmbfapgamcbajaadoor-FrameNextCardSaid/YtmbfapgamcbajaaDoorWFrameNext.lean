/- FrameNext: from what comes in to its walk. -/
import Derived.Test.YtmbfapgamcbajaaDoorHNext
import Derived.Test.YtmbfapgamcbajaaDoorOFrm
set_option linter.unusedVariables false
namespace Go.Proofs.YtmbfapgamcbajaaDoor.X
open Go.RowKit Go.Proofs.YtmbfapgamcbajaaDoorW.PrintWords Go.Proofs.YtmbfapgamcbajaaDoor
theorem FrameNext_row (w : World) (x : List Int) (A1 : Option Addr) (n1 c1 : Nat) (y : List ByteArray) (A2 : Option Addr) (n2 c2 : Nat) (kx : Bs.K w x [.slice A1 n1 c1]) (okx : x.length ≤ maxLen ∧ ∀ z ∈ x, (Lit.int .u8 z).wf = true) (ky : Ts.K w y [.slice A2 n2 c2]) (oky : y.length ≤ maxLen ∧ ∀ z ∈ y, z.size ≤ maxLen)
    (hL : laidMetH Tryd.prog theList w) (hS : w.ShapedOpen Tryd.prog) :
    Calls Tryd.prog 4 #[.slice A1 n1 c1, .slice A2 n2 c2] w fun e w' => e = .returned (.bool true) ∧ Below w.heap.size w w' := by
  obtain ⟨rfl, h1, h2⟩ := bs_open kx
  obtain ⟨rfl, h3, h4⟩ := ts_open ky
  exact FrameNext_walk A1 x c1 A2 y c2 w (Ld.of_laid hL hS) (fun z hz => wf_u8 (okx.2 z hz)) h2 h1 h4 h3
end Go.Proofs.YtmbfapgamcbajaaDoor.X
