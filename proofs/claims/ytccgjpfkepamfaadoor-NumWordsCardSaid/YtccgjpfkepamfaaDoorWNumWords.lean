/- The walk of NumWords: the printed one, over the plain law. -/
import Derived.Test.YtccgjpfkepamfaaDoorPWords
import Derived.Test.YtccgjpfkepamfaaDoorELaidNum
set_option linter.unusedVariables false
namespace Go.Proofs.YtccgjpfkepamfaaDoor.X
open Go.RowKit Go.Proofs.YtccgjpfkepamfaaDoorW.PrintWords
theorem NumWords_walk (w : World) (a0 : ByteArray) (a1 : ByteArray) (y0 : a0.size ≤ maxLen) (z0 : a0.size ≤ 140737488351232) (y1 : a1.size ≤ maxLen) (z1 : a1.size ≤ 140737488351232) (hL : laidMetH Tryd.prog theList w) :
    Calls Tryd.prog 7 #[.string a0, .string a1] w fun e w' => e = .returned (.bool true) ∧ Below w.heap.size w w' := by
  exact tipstafflaw01_NumWords.calls a0 a1 true w (Ld.of_laid hL) (NumWords a0 a1 )
end Go.Proofs.YtccgjpfkepamfaaDoor.X
