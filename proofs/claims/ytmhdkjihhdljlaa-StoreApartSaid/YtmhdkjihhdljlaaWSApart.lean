/- StoreApart: from what comes in to its walk. -/
import Derived.Test.YtmhdkjihhdljlaaHApart
import Derived.Test.YtmhdkjihhdljlaaOSt
set_option linter.unusedVariables false
namespace Go.Proofs.Ytmhdkjihhdljlaa.X
open Go.RowKit Go.Proofs.YtmhdkjihhdljlaaW.PrintWords Go.Proofs.Ytmhdkjihhdljlaa
theorem storeApart_row (w : World) (y : Vl) (cs : Array Value) (due : Int) (x : List Op10) (A1 : Option Addr) (n1 c1 : Nat) (ky : kVl.K w y cs.toList) (_ : True) (wd : (Lit.int .u16 due).wf = true) (kx : Os'.K w x [.slice A1 n1 c1]) (okx : x.length ≤ maxLen ∧ ∀ o ∈ x, OpOk o) :
    Calls Try.prog 5 #[.agg cs, .int .u16 due, .slice A1 n1 c1] w fun e w' => e = .returned (.bool true) ∧ Below w.heap.size w w' := by
  obtain ⟨A2, A3, A4, n2, n3, n4, c2, c3, c4, e, hv⟩ := kVl_open ky
  obtain ⟨rfl, h1, h2⟩ := ops_open kx
  obtain rfl : cs = #[.int .u8 y.kind, .string y.s, .slice A2 n2 c2, .slice A3 n3 c3, .slice A4 n4 c4] := by rw [← Array.toArray_toList (xs := cs), e]
  exact StoreApart_walk y A2 A3 A4 n2 n3 n4 c2 c3 c4 due A1 x c1 w hv (wf_u16 wd) h2 h1 okx.2
end Go.Proofs.Ytmhdkjihhdljlaa.X
