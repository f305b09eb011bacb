/- SubsBoth: from what comes in to its walk. -/
import Derived.Test.YtjcmmlbonljcnaaHBoth
set_option linter.unusedVariables false
namespace Go.Proofs.Ytjcmmlbonljcnaa.X
open Go.RowKit Go.Proofs.YtjcmmlbonljcnaaW.PrintWords Go.Proofs.Ytjcmmlbonljcnaa
theorem ops_open {w : World} {x : OpL} {A : Option Addr} {n c : Nat} (h : Os'.K w x [.slice A n c]) : n = x.length ∧ x.length ≤ c ∧ kOp.C w A x.length x := by
  obtain ⟨A', c', he, hl, hc⟩ := h
  injection he with he _
  injection he with e1 e2 e3
  subst e1 e2 e3
  exact ⟨rfl, hl, hc⟩
theorem wf_u8' {x : Int} (h : (Lit.int .u8 x).wf = true) : 0 ≤ x ∧ x ≤ 255 := by
  have e1 : IntKind.u8.min = 0 := rfl
  have e2 : IntKind.u8.max = 255 := rfl
  simpa [Lit.wf, e1, e2] using h
theorem subsBoth_row (w : World) (x : OpL) (A1 : Option Addr) (n1 c1 : Nat) (a : Int) (kx : Os'.K w x [.slice A1 n1 c1]) (okx : x.length ≤ maxLen ∧ ∀ z ∈ x, (Lit.int .u8 z.1).wf = true ∧ (Lit.int .i64 z.2.1).wf = true ∧ z.2.2.size ≤ maxLen) (wa : (Lit.int .u8 a).wf = true) :
    Calls Try.prog 5 #[.slice A1 n1 c1, .int .u8 a] w fun e w' => e = .returned (.bool true) ∧ Below w.heap.size w w' := by
  obtain ⟨rfl, h1, h2⟩ := ops_open kx
  exact SubsBoth_walk A1 x c1 a w h2 h1 (fun o ho => (okx.2 o ho).2.1) (wf_u8' wa).1 (wf_u8' wa).2
end Go.Proofs.Ytjcmmlbonljcnaa.X
