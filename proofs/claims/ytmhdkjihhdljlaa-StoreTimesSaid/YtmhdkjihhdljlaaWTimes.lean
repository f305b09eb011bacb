/- StoreTimes: from what comes in to its walk. -/
import Derived.Test.YtmhdkjihhdljlaaHTimes
import Derived.Test.YtmhdkjihhdljlaaOSt
set_option linter.unusedVariables false
namespace Go.Proofs.Ytmhdkjihhdljlaa.X
open Go.RowKit Go.Proofs.YtmhdkjihhdljlaaW.PrintWords Go.Proofs.Ytmhdkjihhdljlaa
theorem storeTimes_row (w : World) (due : Int) (x : List Int) (A1 : Option Addr) (n1 c1 : Nat) (wd : (Lit.int .u16 due).wf = true) (kx : U16s.K w x [.slice A1 n1 c1]) (okx : x.length ≤ maxLen ∧ ∀ z ∈ x, (Lit.int .u16 z).wf = true) :
    Calls Try.prog 6 #[.int .u16 due, .slice A1 n1 c1] w fun e w' => e = .returned (.bool true) ∧ Below w.heap.size w w' := by
  obtain ⟨rfl, h1, h2⟩ := u16s_open kx
  exact StoreTimes_walk due A1 x c1 w h2 h1 (wf_u16 wd) (fun z hz => wf_u16 (okx.2 z hz))
end Go.Proofs.Ytmhdkjihhdljlaa.X
