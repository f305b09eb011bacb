/- The walk of NumBack: the printed one, over the plain law. -/
import Derived.Test.YtccgjpfkepamfaaDoorPBack
import Derived.Test.YtccgjpfkepamfaaDoorELaidNum
set_option linter.unusedVariables false
namespace Go.Proofs.YtccgjpfkepamfaaDoor.X
open Go.RowKit Go.Proofs.YtccgjpfkepamfaaDoorW.PrintWords
theorem NumBack_walk (w : World) (a0 : Int) (a1 : ByteArray) (w0 : (Lit.int .i64 a0).wf = true) (y1 : a1.size ≤ maxLen) (z1 : a1.size ≤ 140737488351232) (hL : laidMetH Tryd.prog theList w) :
    Calls Tryd.prog 5 #[.int .i64 a0, .string a1] w fun e w' => e = .returned (.bool true) ∧ Below w.heap.size w w' := by
  exact tipstafflaw01_NumBack.calls a0 a1 true w (Ld.of_laid hL) (NumBack a0 a1 (i64_wf w0))
end Go.Proofs.YtccgjpfkepamfaaDoor.X
