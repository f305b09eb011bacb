-- Written by a program of the session (wip/xprint.py): the kit's printer, beside contracts of the session's own.
import Derived.Test.YtccgjpfkepamfaaDoorProg
import Derived.Below
import Derived.Deep.Draws
import Derived.Deep.AppendLies
import Derived.Maps.AppendAt
import Derived.OwnWalk
import Derived.Laws.BytesArg
import Derived.Laws.MakeOwn
import Derived.Laws.OwnMore
import Derived.Deep.OwnRows
import Derived.Tactics
import Derived.Lib.ConvBytes
import Derived.Laws.Slices
import Derived.WalkKit
import Derived.KernelRfl
import Derived.RowKit3
import Derived.Deep.LoopGhost
import Derived.Deep.QuietTactic
import Derived.BigQuiet
import Derived.WideLaws
import Derived.Deep.DeepCutAuto
import Derived.Deep.CutBlock
import Derived.Deep.RegionHeld3
import Derived.Laws.Rows
import Derived.Lib.AppendStr
import Derived.ArgAppend
import Derived.Laws.IdiomCopy
import Derived.OrdersHeld
import Derived.Laws.BitsLemmas
import Derived.RowKit
import Derived.Test.YtccgjpfkepamfaaDoorWWords
import Derived.Test.YtccgjpfkepamfaaDoorWLast
import Derived.Test.YtccgjpfkepamfaaDoorWTab
import Derived.Test.YtccgjpfkepamfaaDoorWFour
import Derived.Test.YtccgjpfkepamfaaDoorWQPut
import Derived.Test.YtccgjpfkepamfaaDoorWApart
import Derived.Test.YtccgjpfkepamfaaDoorWArr
import Derived.Test.YtccgjpfkepamfaaDoorWZeros
import Derived.Test.YtccgjpfkepamfaaDoorWFoot
import Derived.Test.YtccgjpfkepamfaaDoorWKept
import Derived.Test.YtccgjpfkepamfaaDoorWShare
import Derived.Test.YtccgjpfkepamfaaDoorWN
import Derived.Test.YtccgjpfkepamfaaDoorWFootNe
import Derived.Test.YtccgjpfkepamfaaDoorWAt
import Derived.Test.YtccgjpfkepamfaaDoorWEqStruct
import Derived.Test.YtccgjpfkepamfaaDoorWRepsOne
import Derived.Test.YtccgjpfkepamfaaDoorWInv
import Derived.Test.YtccgjpfkepamfaaDoorWInvWords
import Derived.Test.YtccgjpfkepamfaaDoorWGuard
import Derived.Test.YtccgjpfkepamfaaDoorWNEv
import Derived.Test.YtccgjpfkepamfaaDoorWMore
namespace Go.Proofs.YtccgjpfkepamfaaDoor.X
open Go.RowKit Go.Proofs.YtccgjpfkepamfaaDoorW.PrintWords Go.Proofs.YtccgjpfkepamfaaDoorW.PrintLast Go.Proofs.YtccgjpfkepamfaaDoorW.PrintMore
attribute [local go_sem] max2_int min2_int max_two min_two max_three min_three max_four min_four   -- for this text's walks alone
set_option linter.unusedVariables false
set_option linter.unusedSimpArgs false

theorem same_call {α : Type} {f : Option α} {a b : α} (h : f = some a) (k : Aside0 (f = some b)) : b = a := Option.some.inj (k.out.symm.trans h)


def errW : Option Int → Value
  | none => .nilIface
  | some c => .iface 0 (.int .i64 c)
theorem errW_none : errW none = .nilIface := rfl
theorem errW_some (c : Int) : errW (some c) = .iface 0 (.int .i64 c) := rfl

theorem info5 : (Tryd.prog.info? 5).map (fun i => (i.zero, i.size, i.bytes)) = some (some (.int .u8 0), 1, 1) := by kernel_rfl
-- the values' own types

end Go.Proofs.YtccgjpfkepamfaaDoor.X
