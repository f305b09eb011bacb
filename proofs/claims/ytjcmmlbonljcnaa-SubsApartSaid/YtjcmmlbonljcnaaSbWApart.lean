/- SubsApart: from what comes in to its walk. -/
import Derived.Test.YtjcmmlbonljcnaaHApart
import Derived.Test.YtjcmmlbonljcnaaOSb
set_option linter.unusedVariables false
namespace Go.Proofs.Ytjcmmlbonljcnaa.X
open Go.RowKit Go.Proofs.YtjcmmlbonljcnaaW.PrintWords Go.Proofs.Ytjcmmlbonljcnaa
theorem subsApart_row (w : World) (a b : Int) (l : List ByteArray) (cs : Array Value) (wa : (Lit.int .i64 a).wf = true) (wb : (Lit.int .i64 b).wf = true) (kx : T2.K w l cs.toList) (okx : ∀ x ∈ l, x.size ≤ maxLen) :
    Calls Try.prog 6 #[.int .i64 a, .int .i64 b, .agg cs] w fun e w' => e = .returned (.bool true) ∧ Below w.heap.size w w' := by
  obtain ⟨x, y, rfl⟩ := two_open kx
  exact SubsApart_walk a b x y w wa wb
end Go.Proofs.Ytjcmmlbonljcnaa.X
