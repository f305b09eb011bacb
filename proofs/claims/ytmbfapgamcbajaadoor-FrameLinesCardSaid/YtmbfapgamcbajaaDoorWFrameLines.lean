/- FrameLines: from what comes in to its walk. -/
import Derived.Test.YtmbfapgamcbajaaDoorHLines
import Derived.Test.YtmbfapgamcbajaaDoorOFrm
set_option linter.unusedVariables false
namespace Go.Proofs.YtmbfapgamcbajaaDoor.X
open Go.RowKit Go.Proofs.YtmbfapgamcbajaaDoorW.PrintWords Go.Proofs.YtmbfapgamcbajaaDoor
theorem FrameLines_row (w : World) (x : List ByteArray) (A1 : Option Addr) (n1 c1 : Nat) (z : Int) (b : Bool) (kx : Ts.K w x [.slice A1 n1 c1]) (okx : x.length ≤ maxLen ∧ ∀ z ∈ x, z.size ≤ maxLen) (wz : (Lit.int .u8 z).wf = true)
    (hL : laidMetH Tryd.prog theList w) (hS : w.ShapedOpen Tryd.prog) :
    Calls Tryd.prog 7 #[.slice A1 n1 c1, .int .u8 z, .bool b] w fun e w' => e = .returned (.bool true) ∧ Below w.heap.size w w' := by
  obtain ⟨rfl, h1, h2⟩ := ts_open kx
  exact FrameLines_walk A1 x c1 z b w (Ld.of_laid hL hS) h2 h1 okx.2 (wf_u8 wz).1 (wf_u8 wz).2
end Go.Proofs.YtmbfapgamcbajaaDoor.X
