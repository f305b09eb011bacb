/- The walk of NumAll: the printed one, over the plain law. -/
import Derived.Test.YtccgjpfkepamfaaDoorPAll
import Derived.Test.YtccgjpfkepamfaaDoorELaidNum
set_option linter.unusedVariables false
namespace Go.Proofs.YtccgjpfkepamfaaDoor.X
open Go.RowKit Go.Proofs.YtccgjpfkepamfaaDoorW.PrintWords
theorem NumAll_walk (w : World) (a0 : Int) (a1 : Int) (a2 : ByteArray) (w0 : (Lit.int .i64 a0).wf = true) (w1 : (Lit.int .i64 a1).wf = true) (y2 : a2.size ≤ maxLen) (z2 : a2.size ≤ 140737488351232) (hL : laidMetH Tryd.prog theList w) :
    Calls Tryd.prog 8 #[.int .i64 a0, .int .i64 a1, .string a2] w fun e w' => e = .returned (.bool true) ∧ Below w.heap.size w w' := by
  obtain ⟨k, h⟩ := NumAll a0 a1 a2 (i64_wf w0) (i64_wf w1)
  exact tipstafflaw01_NumAll.calls k a0 a1 a2 true w (Ld.of_laid hL) h
end Go.Proofs.YtccgjpfkepamfaaDoor.X
