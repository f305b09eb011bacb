/- SubsTurns: from what comes in to its walk. -/
import Derived.Test.YtjcmmlbonljcnaaHTurns
import Derived.Test.YtjcmmlbonljcnaaOSb
set_option linter.unusedVariables false
namespace Go.Proofs.Ytjcmmlbonljcnaa.X
open Go.RowKit Go.Proofs.YtjcmmlbonljcnaaW.PrintWords Go.Proofs.Ytjcmmlbonljcnaa
theorem wf_u8 {x : Int} (h : (Lit.int .u8 x).wf = true) : 0 ≤ x ∧ x ≤ 255 := by
  have e1 : IntKind.u8.min = 0 := rfl
  have e2 : IntKind.u8.max = 255 := rfl
  simpa [Lit.wf, e1, e2] using h
theorem subsTurns_row (w : World) (x : List ByteArray) (A1 : Option Addr) (n1 c1 : Nat) (a b : Int) (kx : Ts.K w x [.slice A1 n1 c1]) (okx : x.length ≤ maxLen ∧ ∀ z ∈ x, z.size ≤ maxLen) (wa : (Lit.int .u8 a).wf = true) (wb : (Lit.int .i64 b).wf = true) :
    Calls Try.prog 3 #[.slice A1 n1 c1, .int .u8 a, .int .i64 b] w fun e w' => e = .returned (.bool true) ∧ Below w.heap.size w w' := by
  obtain ⟨rfl, h1, h2⟩ := ts_open kx
  exact SubsTurns_walk A1 x c1 a b w h2 h1 (wf_u8 wa).1 (wf_u8 wa).2 wb
end Go.Proofs.Ytjcmmlbonljcnaa.X
