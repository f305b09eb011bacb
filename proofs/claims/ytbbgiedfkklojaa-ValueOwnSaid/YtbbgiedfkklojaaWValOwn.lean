/- ValueOwn, of what is read as a value, gives true. -/
import Derived.Test.YtbbgiedfkklojaaPValOwn
import Derived.Test.YtbbgiedfkklojaaOVal
set_option linter.unusedVariables false
set_option linter.unusedSimpArgs false
namespace Go.Proofs.Ytbbgiedfkklojaa.X
open Go.RowKit Go.Proofs.YtbbgiedfkklojaaW.PrintWords Go.Proofs.Ytbbgiedfkklojaa

theorem valueOwn_row (w : World) (x : S26) (cs : Array Value) (kx : k26.K w x cs.toList) (ok : OkVal x) :
    Calls Try.prog 9 #[.agg cs] w fun e w' => e = .returned (.bool true) ∧ Below w.heap.size w w' := by
  obtain ⟨A2, c2, A3, c3, A4, c4, h, l2, g2, l3, g3, l4, g4⟩ := k26_open kx
  obtain rfl : cs = #[.int .u8 x.f0, .string x.f1, .slice A2 x.f2.length c2, .slice A3 x.f3.length c3, .slice A4 x.f4.length c4] := Array.toList_inj.1 h
  obtain ⟨k, hk⟩ := valueOwn_true x.f0 x.f1 x.f2 x.f3 x.f4 ok.list (fun s hs => (ok.pairs s hs).2) (fun s hs => (ok.marks s hs).1)
  exact tipstafflaw09_ValueOwn.calls k x.f0 x.f1 A2 c2 x.f2 A3 c3 x.f3 A4 c4 x.f4 true w g2 l2 g3 l3 g4 l4 hk
end Go.Proofs.Ytbbgiedfkklojaa.X
