/- What the row's list of variables gives; one start that fits. -/
import Derived.Test.YtccgjpfkepamfaaDoorELd
import Derived.LaidMore
import Derived.LaidHandle
import Derived.Stop.LaidErr
import Derived.Stop.Joined
import Derived.ProofKit
import Derived.MakeChecks
set_option linter.unusedVariables false
namespace Go.Proofs.YtccgjpfkepamfaaDoor.X
open Go.ChangeShapes Go.WideShapes Go.RowKit

theorem tyTab : (Tryd.prog.globals[2]?).map (·.type) = some 72 := by kernel_rfl
theorem tySyn : (Tryd.prog.globals[0]?).map (·.type) = some 38 := by kernel_rfl
theorem tyRng : (Tryd.prog.globals[1]?).map (·.type) = some 38 := by kernel_rfl
theorem starS : "*" ++ "errors.errorString" = "*errors.errorString" := by decide
theorem rowES (u : TypeId) (h : Tryd.prog.typeName? 3 u = some "*errors.errorString") : u = 77 :=
  typeName_ptr_named (nm := "errors.errorString") (by rw [starS]; kernel_rfl) (by kernel_rfl) (by decide) u (by rw [starS]; exact h)
theorem cellsES : Tryd.prog.cellsOf 79 = 1 := by kernel_rfl
theorem cellsStr : Tryd.prog.cellsOf 9 = 1 := by kernel_rfl
theorem cellsTab : Tryd.prog.cellsOf 72 = 20 := by kernel_rfl
theorem cellsU64 : Tryd.prog.cellsOf 47 = 1 := by kernel_rfl

def theList : List (String × DataW Unit) := [("math/bits.deBruijn32tab", Rows.laid_math_bits_deBruijn32tab), ("math/bits.deBruijn64tab", Rows.laid_math_bits_deBruijn64tab), ("internal/strconv.uint64pow10", Rows.laid_internal_strconv_uint64pow10), ("strconv.ErrRange", Rows.laid_strconv_ErrRange), ("strconv.ErrSyntax", Rows.laid_strconv_ErrSyntax)]

theorem Ld.of_laid {W : World} (h : laidMetH Tryd.prog theList W) : Ld W := by
  rw [MakeChecks.laidMetH_plain _ _ _ (by kernel_rfl)] at h
  obtain ⟨a1, s1, h1, _⟩ := laid_sentinel (h.tail.tail.tail) gRng tyRng Tryd.underlying38 rowES Tryd.underlying77 Tryd.underlying79 rfl rfl Tryd.underlying9 cellsES cellsStr
  obtain ⟨a0, s0, h0, _⟩ := laid_sentinel (h.tail.tail.tail.tail) gSyn tySyn Tryd.underlying38 rowES Tryd.underlying77 Tryd.underlying79 rfl rfl Tryd.underlying9 cellsES cellsStr
  exact ⟨Lib.tabIs_of_head (zs := Lib.pow10Tab) gTab tyTab Tryd.underlying72 Tryd.underlying47 cellsU64 cellsTab (h.tail.tail), ⟨_, _, h0⟩, ⟨_, _, h1⟩⟩

theorem door_met (os : Os) (args : Array Value) : laidMetH Tryd.prog theList ((World.doorLaid Tryd.prog 400 os).forCall (fun _ _ => 0) ⟨#[], args, []⟩).memory :=
  laidMetH_of_parts3 (fuel := 8) (laidMet_of_run' 8 (by kernel_rfl) (by kernel_rfl)) (by kernel_rfl) (by kernel_rfl)
end Go.Proofs.YtccgjpfkepamfaaDoor.X
