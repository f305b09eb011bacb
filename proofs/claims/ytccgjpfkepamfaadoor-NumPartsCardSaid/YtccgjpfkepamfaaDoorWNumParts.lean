/- The walk of NumParts: the printed one, over the plain law. -/
import Derived.Test.YtccgjpfkepamfaaDoorPParts
import Derived.Test.YtccgjpfkepamfaaDoorELaidNum
set_option linter.unusedVariables false
namespace Go.Proofs.YtccgjpfkepamfaaDoor.X
open Go.RowKit Go.Proofs.YtccgjpfkepamfaaDoorW.PrintWords
theorem NumParts_walk (w : World) (a0 : ByteArray) (a1 : ByteArray) (a2 : Int) (y0 : a0.size ≤ maxLen) (z0 : a0.size ≤ 140737488351232) (y1 : a1.size ≤ maxLen) (z1 : a1.size ≤ 140737488351232) (w2 : (Lit.int .u8 a2).wf = true) (hL : laidMetH Tryd.prog theList w) :
    Calls Tryd.prog 9 #[.string a0, .string a1, .int .u8 a2] w fun e w' => e = .returned (.bool true) ∧ Below w.heap.size w w' := by
  obtain ⟨k, h⟩ := NumParts a0 a1 a2 w2
  exact tipstafflaw01_NumParts.calls k a0 a1 a2 true w (Ld.of_laid hL) h
end Go.Proofs.YtccgjpfkepamfaaDoor.X
