/- What the library's variables hold, kept by whatever makes memory alone. -/
import Derived.Test.YtencimfeipglaaaDoorSh
import Derived.Test.YtencimfeipglaaaDoorRows
import Derived.Lib.LaidTab
import Derived.Lib.SmallJoins
import Derived.Stop.LaidErr
import Derived.LaidMore
set_option linter.unusedVariables false
namespace Go.Proofs.YtencimfeipglaaaDoor.X
open Go.RowKit

structure Ld (w : World) : Prop where
  tab : Lib.TabIs Tryd.prog w "internal/strconv.uint64pow10" .u64 Lib.pow10Tab
  syn : ∃ tp p, w.var? Tryd.prog "strconv.ErrSyntax" = some #[.iface tp p]
  rng : ∃ tp p, w.var? Tryd.prog "strconv.ErrRange" = some #[.iface tp p]
  mx : ∃ m : Int, w.cell? ⟨0, 0, none⟩ = some (.int .i64 m)

theorem gTab : Tryd.prog.globalNamed "internal/strconv.uint64pow10" = some 1 := by kernel_rfl
theorem gSyn : Tryd.prog.globalNamed "strconv.ErrSyntax" = some 2 := by kernel_rfl
theorem gRng : Tryd.prog.globalNamed "strconv.ErrRange" = some 3 := by kernel_rfl

theorem Ld.below {w w1 : World} (h : Ld w) (hb : Below w.heap.size w w1) : Ld w1 := by
  obtain ⟨h1, ⟨t2, p2, h2⟩, ⟨t3, p3, h3⟩, ⟨m, h4⟩⟩ := h
  exact ⟨Joins.var_stays gTab h1 hb (Nat.le_refl _), ⟨t2, p2, Joins.var_stays gSyn h2 hb (Nat.le_refl _)⟩, ⟨t3, p3, Joins.var_stays gRng h3 hb (Nat.le_refl _)⟩, ⟨m, (hb.cell (World.block_lt_of_cell? w _ h4)).trans h4⟩⟩
theorem Ld.drewN {w : World} (h : Ld w) (n : Nat) : Ld (w.drewN n) := ⟨h.tab, h.syn, h.rng, h.mx⟩
end Go.Proofs.YtencimfeipglaaaDoor.X
