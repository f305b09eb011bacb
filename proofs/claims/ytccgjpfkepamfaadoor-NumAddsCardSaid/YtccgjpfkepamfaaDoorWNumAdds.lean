/- The walk of NumAdds: the printed one, over the plain law. -/
import Derived.Test.YtccgjpfkepamfaaDoorPAdds
import Derived.Test.YtccgjpfkepamfaaDoorELaidNum
set_option linter.unusedVariables false
namespace Go.Proofs.YtccgjpfkepamfaaDoor.X
open Go.RowKit Go.Proofs.YtccgjpfkepamfaaDoorW.PrintWords
theorem NumAdds_walk (w : World) (a0 : Int) (a1 : Int) (w0 : (Lit.int .i64 a0).wf = true) (w1 : (Lit.int .i64 a1).wf = true) (hL : laidMetH Tryd.prog theList w) :
    Calls Tryd.prog 4 #[.int .i64 a0, .int .i64 a1] w fun e w' => e = .returned (.bool true) ∧ Below w.heap.size w w' := by
  exact tipstafflaw01_NumAdds.calls a0 a1 true w (Ld.of_laid hL) (NumAdds a0 a1 (i64_wf w0) (i64_wf w1))
end Go.Proofs.YtccgjpfkepamfaaDoor.X
