/- StoreVersions: from what comes in to its walk. -/
import Derived.Test.YtmhdkjihhdljlaaHVers
import Derived.Test.YtmhdkjihhdljlaaOSt
set_option linter.unusedVariables false
namespace Go.Proofs.Ytmhdkjihhdljlaa.X
open Go.RowKit Go.Proofs.YtmhdkjihhdljlaaW.PrintWords Go.Proofs.Ytmhdkjihhdljlaa
theorem storeVersions_row (w : World) (x : List Op10) (A1 : Option Addr) (n1 c1 : Nat) (kx : Os'.K w x [.slice A1 n1 c1]) (okx : x.length ≤ maxLen ∧ ∀ o ∈ x, OpOk o) :
    Calls Try.prog 4 #[.slice A1 n1 c1] w fun e w' => e = .returned (.bool true) ∧ Below w.heap.size w w' := by
  obtain ⟨rfl, h1, h2⟩ := ops_open kx
  exact StoreVersions_walk A1 x c1 w h2 h1 okx.2
end Go.Proofs.Ytmhdkjihhdljlaa.X
