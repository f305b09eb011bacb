/- SubsPlays: from what comes in to its walk. -/
import Derived.Test.YtjcmmlbonljcnaaHPlays
import Derived.Test.YtjcmmlbonljcnaaSbWBoth
set_option linter.unusedVariables false
namespace Go.Proofs.Ytjcmmlbonljcnaa.X
open Go.RowKit Go.Proofs.YtjcmmlbonljcnaaW.PrintWords Go.Proofs.Ytjcmmlbonljcnaa
theorem subsPlays_row (w : World) (x : OpL) (A1 : Option Addr) (n1 c1 : Nat) (kx : Os'.K w x [.slice A1 n1 c1]) (okx : x.length ≤ maxLen ∧ ∀ z ∈ x, (Lit.int .u8 z.1).wf = true ∧ (Lit.int .i64 z.2.1).wf = true ∧ z.2.2.size ≤ maxLen) :
    Calls Try.prog 4 #[.slice A1 n1 c1] w fun e w' => e = .returned (.bool true) ∧ Below w.heap.size w w' := by
  obtain ⟨rfl, h1, h2⟩ := ops_open kx
  exact SubsPlays_walk A1 x c1 w h2 h1 (fun o ho => ⟨(okx.2 o ho).1, (okx.2 o ho).2.1⟩)
end Go.Proofs.Ytjcmmlbonljcnaa.X
