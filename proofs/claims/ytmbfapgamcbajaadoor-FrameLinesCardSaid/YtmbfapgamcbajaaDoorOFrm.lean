/- What comes into the laws of frame, opened. -/
import Derived.Test.YtmbfapgamcbajaaDoorRows
import Derived.Test.YtmbfapgamcbajaaDoorOpen
import Derived.Test.YtmbfapgamcbajaaDoorELaidFrame
set_option linter.unusedVariables false
namespace Go.Proofs.YtmbfapgamcbajaaDoor.X
open Go.RowKit Go.Proofs.YtmbfapgamcbajaaDoorW.PrintWords Go.Proofs.YtmbfapgamcbajaaDoor

abbrev Bs : Kd (List Int) := Kd.slice 5 (Kd.int .u8)
abbrev Ts : Kd (List ByteArray) := Kd.slice 9 Kd.string
theorem o_bytes : Opens Tryd.prog 22 Bs (fun l => l.length ≤ maxLen ∧ ∀ x ∈ l, (Lit.int .u8 x).wf = true) := Opens.slice Tryd.underlying22 (by kernel_rfl) (Opens.int Tryd.underlying5 (by kernel_rfl))
theorem o_texts : Opens Tryd.prog 25 Ts (fun l => l.length ≤ maxLen ∧ ∀ x ∈ l, x.size ≤ maxLen) := Opens.slice Tryd.underlying25 (by kernel_rfl) (Opens.string Tryd.underlying9 (by kernel_rfl))
theorem bs_open {w : World} {x : List Int} {A : Option Addr} {n c : Nat} (h : Bs.K w x [.slice A n c]) : n = x.length ∧ x.length ≤ c ∧ Kd.C (Kd.int .u8) w A x.length x := by
  obtain ⟨A', c', he, hl, hc⟩ := h
  injection he with he _
  injection he with e1 e2 e3
  subst e1 e2 e3
  exact ⟨rfl, hl, hc⟩
theorem ts_open {w : World} {x : List ByteArray} {A : Option Addr} {n c : Nat} (h : Ts.K w x [.slice A n c]) : n = x.length ∧ x.length ≤ c ∧ Kd.C Kd.string w A x.length x := by
  obtain ⟨A', c', he, hl, hc⟩ := h
  injection he with he _
  injection he with e1 e2 e3
  subst e1 e2 e3
  exact ⟨rfl, hl, hc⟩
theorem wf_u8 {x : Int} (h : (Lit.int .u8 x).wf = true) : 0 ≤ x ∧ x ≤ 255 := by
  have e1 : IntKind.u8.min = 0 := rfl
  have e2 : IntKind.u8.max = 255 := rfl
  simpa [Lit.wf, e1, e2] using h
theorem wf_u16 {x : Int} (h : (Lit.int .u16 x).wf = true) : 0 ≤ x ∧ x ≤ 65535 := by
  have e1 : IntKind.u16.min = 0 := rfl
  have e2 : IntKind.u16.max = 65535 := rfl
  simpa [Lit.wf, e1, e2] using h
end Go.Proofs.YtmbfapgamcbajaaDoor.X
