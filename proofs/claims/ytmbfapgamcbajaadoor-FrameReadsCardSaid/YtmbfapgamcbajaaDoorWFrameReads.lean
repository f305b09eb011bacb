/- FrameReads: from what comes in to its walk. -/
import Derived.Test.YtmbfapgamcbajaaDoorHReads
import Derived.Test.YtmbfapgamcbajaaDoorOFrm
set_option linter.unusedVariables false
namespace Go.Proofs.YtmbfapgamcbajaaDoor.X
open Go.RowKit Go.Proofs.YtmbfapgamcbajaaDoorW.PrintWords Go.Proofs.YtmbfapgamcbajaaDoor
theorem o_cuts : Opens Tryd.prog 37 (Kd.arr 4 (Kd.int .u16) (by decide)) (fun l => ∀ x ∈ l, (Lit.int .u16 x).wf = true) := Opens.array (by decide) Tryd.underlying37 (by kernel_rfl) (Opens.int Tryd.underlying35 (by kernel_rfl))
theorem cuts_open {w : World} {l : List Int} {cs : Array Value} (h : (Kd.arr 4 (Kd.int .u16) (by decide)).K w l cs.toList) (ok : ∀ x ∈ l, (Lit.int .u16 x).wf = true) :
    ∃ a0 a1 a2 a3 : Int, cs = #[.int .u16 a0, .int .u16 a1, .int .u16 a2, .int .u16 a3] ∧ (0 ≤ a0 ∧ a0 ≤ 65535) ∧ (0 ≤ a1 ∧ a1 ≤ 65535) ∧ (0 ≤ a2 ∧ a2 ≤ 65535) ∧ (0 ≤ a3 ∧ a3 ≤ 65535) := by
  obtain ⟨h4, e⟩ := Kd.arr_cells (enc := Value.int .u16) (h1 := fun _ => rfl) h
  obtain ⟨a0, a1, a2, a3, rfl⟩ : ∃ a0 a1 a2 a3, l = [a0, a1, a2, a3] := by
    match l, h4 with
    | [a0, a1, a2, a3], _ => exact ⟨a0, a1, a2, a3, rfl⟩
  refine ⟨a0, a1, a2, a3, ?_, wf_u16 (ok _ (by simp)), wf_u16 (ok _ (by simp)), wf_u16 (ok _ (by simp)), wf_u16 (ok _ (by simp))⟩
  have e' : cs.toList = [.int .u16 a0, .int .u16 a1, .int .u16 a2, .int .u16 a3] := by rw [e]; rfl
  rw [← Array.toArray_toList (xs := cs), e']
theorem FrameReads_row (w : World) (x : List Int) (A1 : Option Addr) (n1 c1 : Nat) (z : List Int) (cs : Array Value) (y : List Int) (A2 : Option Addr) (n2 c2 : Nat) (kx : Bs.K w x [.slice A1 n1 c1]) (okx : x.length ≤ maxLen ∧ ∀ z ∈ x, (Lit.int .u8 z).wf = true) (kz : (Kd.arr 4 (Kd.int .u16) (by decide)).K w z cs.toList) (okz : ∀ x ∈ z, (Lit.int .u16 x).wf = true) (ky : Bs.K w y [.slice A2 n2 c2]) (oky : y.length ≤ maxLen ∧ ∀ z ∈ y, (Lit.int .u8 z).wf = true)
    (hL : laidMetH Tryd.prog theList w) (hS : w.ShapedOpen Tryd.prog) :
    Calls Tryd.prog 6 #[.slice A1 n1 c1, .agg cs, .slice A2 n2 c2] w fun e w' => e = .returned (.bool true) ∧ Below w.heap.size w w' := by
  obtain ⟨rfl, h1, h2⟩ := bs_open kx
  obtain ⟨rfl, h3, h4⟩ := bs_open ky
  obtain ⟨a0, a1, a2, a3, rfl, k0, k1, k2, k3⟩ := cuts_open kz okz
  exact FrameReads_walk A1 x c1 a0 a1 a2 a3 A2 y c2 w (Ld.of_laid hL hS) h2 h1 (fun q hq => by have := wf_u8 (okx.2 q hq); exact ⟨this.1, this.2⟩) h4 h3 k0 k1 k2 k3
end Go.Proofs.YtmbfapgamcbajaaDoor.X
