/- FrameBounds: from what comes in to its walk. -/
import Derived.Test.YtmbfapgamcbajaaDoorHBounds
import Derived.Test.YtmbfapgamcbajaaDoorELaidFrame
set_option linter.unusedVariables false
namespace Go.Proofs.YtmbfapgamcbajaaDoor.X
open Go.RowKit Go.Proofs.YtmbfapgamcbajaaDoorW.PrintWords Go.Proofs.YtmbfapgamcbajaaDoor
theorem wf_u8 {x : Int} (h : (Lit.int .u8 x).wf = true) : 0 ≤ x ∧ x ≤ 255 := by
  have e1 : IntKind.u8.min = 0 := rfl
  have e2 : IntKind.u8.max = 255 := rfl
  simpa [Lit.wf, e1, e2] using h
theorem wf_u16 {x : Int} (h : (Lit.int .u16 x).wf = true) : 0 ≤ x ∧ x ≤ 65535 := by
  have e1 : IntKind.u16.min = 0 := rfl
  have e2 : IntKind.u16.max = 65535 := rfl
  simpa [Lit.wf, e1, e2] using h
theorem FrameBounds_row (w : World) (a0 a1 a2 : Int) (w0 : (Lit.int .u8 a0).wf = true) (w1 : (Lit.int .u16 a1).wf = true) (w2 : (Lit.int .u8 a2).wf = true) (hL : laidMetH Tryd.prog theList w) (hS : w.ShapedOpen Tryd.prog) :
    Calls Tryd.prog 5 #[.int .u8 a0, .int .u16 a1, .int .u8 a2] w fun e w' => e = .returned (.bool true) ∧ Below w.heap.size w w' :=
  FrameBounds_walk a0 a1 a2 w (Ld.of_laid hL hS) (wf_u8 w0).1 (wf_u8 w0).2 (wf_u16 w1).1 (wf_u16 w1).2 (wf_u8 w2).1 (wf_u8 w2).2
end Go.Proofs.YtmbfapgamcbajaaDoor.X
