/- DiskNames: its walk at whatever comes in. -/
import Derived.Test.YtdjbapbfbgcfjaaDiskO
import Derived.Test.YtdjbapbfbgcfjaaDiskL3
namespace Go.Proofs.Ytdjbapbfbgcfjaa
open Go.RowKit Go.Proofs.YtdjbapbfbgcfjaaW.PrintWords

theorem names_rowO (W : World) (x0 : List (List Int)) (cs0 : Array Value) (a1 : Bool) (a2 : Int) (kx0 : Bs2.K W x0 cs0.toList) (ok0 : ∀ x ∈ x0, x.length ≤ maxLen ∧ ∀ y ∈ x, (Lit.int .u8 y).wf = true) (w2 : (Lit.int .u8 a2).wf = true) :
    Calls Try.prog 6 #[.agg cs0, .bool a1, .int .u8 a2] W fun e w' => e = .returned (.bool true) ∧ Below W.heap.size W w' := by
  obtain ⟨l1, l2, A1, A2, c1, c2, rfl, rfl, r1, r2, b1, b2⟩ := two_slices kx0
  have h2 := wf_u8 w2
  exact names_row A1 A2 l1 l2 c1 c2 a1 a2 W r1 r2 b1 b2 h2.1 h2.2
end Go.Proofs.Ytdjbapbfbgcfjaa
