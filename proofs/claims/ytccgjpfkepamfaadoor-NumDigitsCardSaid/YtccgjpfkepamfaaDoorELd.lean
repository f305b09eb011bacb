/- What the library's variables hold, kept by whatever makes memory alone. -/
import Derived.Test.YtccgjpfkepamfaaDoorSh
import Derived.Test.YtccgjpfkepamfaaDoorRows
import Derived.Lib.LaidTab
import Derived.Lib.SmallJoins
import Derived.Stop.LaidErr
import Derived.LaidMore
set_option linter.unusedVariables false
namespace Go.Proofs.YtccgjpfkepamfaaDoor.X
open Go.RowKit

structure Ld (w : World) : Prop where
  tab : Lib.TabIs Tryd.prog w "internal/strconv.uint64pow10" .u64 Lib.pow10Tab
  syn : ∃ tp p, w.var? Tryd.prog "strconv.ErrSyntax" = some #[.iface tp p]
  rng : ∃ tp p, w.var? Tryd.prog "strconv.ErrRange" = some #[.iface tp p]

theorem gTab : Tryd.prog.globalNamed "internal/strconv.uint64pow10" = some 2 := by kernel_rfl
theorem gSyn : Tryd.prog.globalNamed "strconv.ErrSyntax" = some 0 := by kernel_rfl
theorem gRng : Tryd.prog.globalNamed "strconv.ErrRange" = some 1 := by kernel_rfl

theorem Ld.below {w w1 : World} (h : Ld w) (hb : Below w.heap.size w w1) : Ld w1 := by
  obtain ⟨h1, ⟨t2, p2, h2⟩, ⟨t3, p3, h3⟩⟩ := h
  exact ⟨Joins.var_stays gTab h1 hb (Nat.le_refl _), ⟨t2, p2, Joins.var_stays gSyn h2 hb (Nat.le_refl _)⟩, ⟨t3, p3, Joins.var_stays gRng h3 hb (Nat.le_refl _)⟩⟩
end Go.Proofs.YtccgjpfkepamfaaDoor.X
