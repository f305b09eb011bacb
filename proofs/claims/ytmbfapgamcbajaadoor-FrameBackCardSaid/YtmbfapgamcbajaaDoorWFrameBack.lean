/- FrameBack: from what comes in to its walk. -/
import Derived.Test.YtmbfapgamcbajaaDoorHBack
import Derived.Test.YtmbfapgamcbajaaDoorOFrm
set_option linter.unusedVariables false
namespace Go.Proofs.YtmbfapgamcbajaaDoor.X
open Go.RowKit Go.Proofs.YtmbfapgamcbajaaDoorW.PrintWords Go.Proofs.YtmbfapgamcbajaaDoor
theorem FrameBack_row (w : World) (x : List ByteArray) (A1 : Option Addr) (n1 c1 : Nat) (y : List ByteArray) (A2 : Option Addr) (n2 c2 : Nat) (z : Int) (kx : Ts.K w x [.slice A1 n1 c1]) (okx : x.length ≤ maxLen ∧ ∀ z ∈ x, z.size ≤ maxLen) (ky : Ts.K w y [.slice A2 n2 c2]) (oky : y.length ≤ maxLen ∧ ∀ z ∈ y, z.size ≤ maxLen) (wz : (Lit.int .u16 z).wf = true)
    (hL : laidMetH Tryd.prog theList w) (hS : w.ShapedOpen Tryd.prog) :
    Calls Tryd.prog 8 #[.slice A1 n1 c1, .slice A2 n2 c2, .int .u16 z] w fun e w' => e = .returned (.bool true) ∧ Below w.heap.size w w' := by
  obtain ⟨rfl, h1, h2⟩ := ts_open kx
  obtain ⟨rfl, h3, h4⟩ := ts_open ky
  exact FrameBack_walk A1 x c1 A2 y c2 z w (Ld.of_laid hL hS) h2 h1 h4 h3 (wf_u16 wz).1 (wf_u16 wz).2
end Go.Proofs.YtmbfapgamcbajaaDoor.X
