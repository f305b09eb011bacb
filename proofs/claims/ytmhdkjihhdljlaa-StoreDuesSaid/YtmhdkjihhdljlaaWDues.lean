/- StoreDues: from what comes in to its walk. -/
import Derived.Test.YtmhdkjihhdljlaaHDues
import Derived.Test.YtmhdkjihhdljlaaOSt
set_option linter.unusedVariables false
namespace Go.Proofs.Ytmhdkjihhdljlaa.X
open Go.RowKit Go.Proofs.YtmhdkjihhdljlaaW.PrintWords Go.Proofs.Ytmhdkjihhdljlaa
theorem storeDues_row (w : World) (y : Vl) (cs : Array Value) (z : List Int) (ds : Array Value) (n : Int) (ky : kVl.K w y cs.toList) (_ : True) (kz : (Kd.arr 2 (Kd.int .u16) (by decide)).K w z ds.toList) (okz : ∀ x ∈ z, (Lit.int .u16 x).wf = true) (wn : (Lit.int .u16 n).wf = true) :
    Calls Try.prog 3 #[.agg cs, .agg ds, .int .u16 n] w fun e w' => e = .returned (.bool true) ∧ Below w.heap.size w w' := by
  obtain ⟨A2, A3, A4, n2, n3, n4, c2, c3, c4, e, hv⟩ := kVl_open ky
  obtain ⟨d0, d1, rfl, h0, h1⟩ := two_open kz okz
  obtain rfl : cs = #[.int .u8 y.kind, .string y.s, .slice A2 n2 c2, .slice A3 n3 c3, .slice A4 n4 c4] := by rw [← Array.toArray_toList (xs := cs), e]
  exact StoreDues_walk y A2 A3 A4 n2 n3 n4 c2 c3 c4 d0 d1 n w hv h0 h1 (wf_u16 wn)
end Go.Proofs.Ytmhdkjihhdljlaa.X
