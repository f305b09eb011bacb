/- DiskSafe: its walk at whatever comes in. -/
import Derived.Test.YtdjbapbfbgcfjaaDiskO
import Derived.Test.YtdjbapbfbgcfjaaDiskL4
namespace Go.Proofs.Ytdjbapbfbgcfjaa
open Go.RowKit Go.Proofs.YtdjbapbfbgcfjaaW.PrintWords

theorem safe_rowO (W : World) (x0 : List Int) (A0 : Option Addr) (n0 c0 : Nat) (x1 : List Int) (A1 : Option Addr) (n1 c1 : Nat) (a2 : Int) (kx0 : Bs.K W x0 [.slice A0 n0 c0]) (ok0 : x0.length ≤ maxLen ∧ ∀ x ∈ x0, (Lit.int .u8 x).wf = true) (kx1 : Bs.K W x1 [.slice A1 n1 c1]) (ok1 : x1.length ≤ maxLen ∧ ∀ x ∈ x1, (Lit.int .u8 x).wf = true) (w2 : (Lit.int .i64 a2).wf = true) :
    Calls Try.prog 5 #[.slice A0 n0 c0, .slice A1 n1 c1, .int .i64 a2] W fun e w' => e = .returned (.bool true) ∧ Below W.heap.size W w' := by
  obtain ⟨B0, d0, e0, b0, r0⟩ := kx0
  obtain ⟨B1, d1, e1, b1, r1⟩ := kx1
  injection e0 with e0
  injection e0 with p0 p1 p2
  injection e1 with e1
  injection e1 with q0 q1 q2
  subst p0 p1 p2 q0 q1 q2
  have h2 := bounds_i64 w2
  exact safe_row A0 A1 x0 x1 c0 c1 a2 W r0 r1 b0 b1 ok0.2 (by omega) (by omega)
end Go.Proofs.Ytdjbapbfbgcfjaa
