/- table.commands: what it computes. -/
import Derived.Test.YtencimfeipglaaaDoorXx0
import Derived.Test.YtencimfeipglaaaDoorWRepsOne
import Derived.Test.YtencimfeipglaaaDoorKp
import Derived.WalkKit
set_option linter.unusedVariables false
set_option linter.unusedSimpArgs false
namespace Go.Proofs.YtencimfeipglaaaDoor.X
open Go.RowKit Go.Proofs.YtencimfeipglaaaDoorW.PrintWords Go.Proofs.YtencimfeipglaaaDoorW.PrintLast Go.Proofs.YtencimfeipglaaaDoorW.PrintMore

def cmdsL : List S31 := [⟨⟨#[103, 101, 116]⟩, 2, 9⟩, ⟨⟨#[115, 101, 116]⟩, (-3), 10⟩, ⟨⟨#[97, 112, 112, 101, 110, 100]⟩, 3, 10⟩, ⟨⟨#[115, 116, 114, 108, 101, 110]⟩, 2, 9⟩, ⟨⟨#[105, 110, 99, 114, 98, 121]⟩, 3, 10⟩, ⟨⟨#[105, 110, 99, 114]⟩, 2, 10⟩, ⟨⟨#[103, 101, 116, 100, 101, 108]⟩, 2, 10⟩, ⟨⟨#[109, 103, 101, 116]⟩, (-2), 9⟩, ⟨⟨#[109, 115, 101, 116]⟩, (-3), 10⟩, ⟨⟨#[108, 112, 117, 115, 104]⟩, (-3), 18⟩, ⟨⟨#[114, 112, 117, 115, 104]⟩, (-3), 18⟩, ⟨⟨#[108, 112, 111, 112]⟩, 2, 18⟩, ⟨⟨#[114, 112, 111, 112]⟩, 2, 18⟩, ⟨⟨#[108, 108, 101, 110]⟩, 2, 17⟩, ⟨⟨#[108, 114, 97, 110, 103, 101]⟩, 4, 17⟩, ⟨⟨#[104, 115, 101, 116]⟩, 4, 34⟩, ⟨⟨#[104, 103, 101, 116]⟩, 3, 33⟩, ⟨⟨#[104, 100, 101, 108]⟩, (-3), 34⟩, ⟨⟨#[104, 108, 101, 110]⟩, 2, 33⟩, ⟨⟨#[104, 103, 101, 116, 97, 108, 108]⟩, 2, 33⟩, ⟨⟨#[104, 105, 110, 99, 114, 98, 121]⟩, 4, 34⟩, ⟨⟨#[115, 97, 100, 100]⟩, (-3), 66⟩, ⟨⟨#[115, 114, 101, 109]⟩, (-3), 66⟩, ⟨⟨#[115, 105, 115, 109, 101, 109, 98, 101, 114]⟩, 3, 65⟩, ⟨⟨#[115, 109, 101, 109, 98, 101, 114, 115]⟩, 2, 65⟩, ⟨⟨#[115, 99, 97, 114, 100]⟩, 2, 65⟩, ⟨⟨#[115, 109, 111, 118, 101]⟩, 4, 66⟩, ⟨⟨#[122, 97, 100, 100]⟩, 4, 130⟩, ⟨⟨#[122, 114, 101, 109]⟩, (-3), 130⟩, ⟨⟨#[122, 115, 99, 111, 114, 101]⟩, 3, 129⟩, ⟨⟨#[122, 114, 97, 110, 103, 101]⟩, 4, 129⟩, ⟨⟨#[122, 99, 97, 114, 100]⟩, 2, 129⟩, ⟨⟨#[122, 105, 110, 99, 114, 98, 121]⟩, 4, 130⟩, ⟨⟨#[100, 101, 108]⟩, (-2), 6⟩, ⟨⟨#[101, 120, 105, 115, 116, 115]⟩, (-2), 5⟩, ⟨⟨#[116, 121, 112, 101]⟩, 2, 5⟩, ⟨⟨#[101, 120, 112, 105, 114, 101]⟩, 3, 6⟩, ⟨⟨#[116, 116, 108]⟩, 2, 5⟩, ⟨⟨#[112, 101, 114, 115, 105, 115, 116]⟩, 2, 6⟩, ⟨⟨#[114, 101, 110, 97, 109, 101]⟩, 3, 6⟩, ⟨⟨#[107, 101, 121, 115]⟩, 2, 5⟩, ⟨⟨#[100, 98, 115, 105, 122, 101]⟩, 1, 5⟩, ⟨⟨#[102, 108, 117, 115, 104, 97, 108, 108]⟩, 1, 6⟩, ⟨⟨#[112, 105, 110, 103]⟩, 1, 512⟩, ⟨⟨#[101, 99, 104, 111]⟩, 2, 512⟩, ⟨⟨#[97, 117, 116, 104]⟩, (-2), 512⟩, ⟨⟨#[113, 117, 105, 116]⟩, 1, 512⟩, ⟨⟨#[109, 117, 108, 116, 105]⟩, 1, 1024⟩, ⟨⟨#[101, 120, 101, 99]⟩, 1, 1024⟩, ⟨⟨#[100, 105, 115, 99, 97, 114, 100]⟩, 1, 1024⟩, ⟨⟨#[119, 97, 116, 99, 104]⟩, (-2), 1024⟩, ⟨⟨#[117, 110, 119, 97, 116, 99, 104]⟩, 1, 1024⟩, ⟨⟨#[115, 117, 98, 115, 99, 114, 105, 98, 101]⟩, (-2), 256⟩, ⟨⟨#[117, 110, 115, 117, 98, 115, 99, 114, 105, 98, 101]⟩, (-1), 256⟩, ⟨⟨#[112, 117, 98, 108, 105, 115, 104]⟩, 3, 256⟩, ⟨⟨#[97, 99, 108]⟩, (-2), 2048⟩]
theorem cmds_len : cmdsL.length = 56 := rfl
def cellsOf : List S31 → List Value
  | [] => []
  | x :: l => .string x.f0 :: .int .i64 x.f1 :: .int .u16 x.f2 :: cellsOf l
theorem reps_cells (w : World) (base : Nat) (ok : Nat → Prop) : ∀ l, Reps (Kd.M k31 w base ok) 3 l (cellsOf l)
  | [] => Reps.none _ _
  | x :: l => Reps.c3 (k31_mkM w base ok x) (reps_cells w base ok l)

section
variable {P : Program} {ops : Array Oper} {rest : List Oper} {o : Oper} {a : Act} {w : World} {Q : Exit → Act → World → Prop}
/-- A struct of three constants. -/
theorem op_build3 (hgd : o.guard = none) (t : TypeId) (x y z : Value) (hop : o.op = .build t #[(0, .const x), (1, .const y), (2, .const z)]) (h : P.built t [(0, x), (1, y), (2, z)] = some #[x, y, z]) (hK : wpList P ops Q rest (a.put o.dst (.agg #[x, y, z])) w) :
    wpList P ops Q (o :: rest) a w := by
  refine Kd.event_run hgd (v := .agg #[x, y, z]) (w1 := w) ?_ hK
  have hr := run_build (P := P) w t #[(0, x), (1, y), (2, z)] #[x, y, z] h
  unfold execOp
  simp only [hop]
  simp [hr, Result.andThen, Act.eval]
end
theorem built3 (x : ByteArray) (y z : Int) : Tryd.prog.built 31 [(0, .string x), (1, .int .i64 y), (2, .int .u16 z)] = some #[.string x, .int .i64 y, .int .u16 z] := by kernel_rfl

def table_commands.f : Option (List S31) := some cmdsL
set_option maxHeartbeats 8000000 in
set_option maxRecDepth 100000 in
theorem table_commands.calls (r : List S31) (w : World) (h : table_commands.f = some r) :
    Calls Tryd.prog 79 #[] w fun e w' => ∃ v0_ : Value, e = .returned (v0_) ∧ Kd.R k31 31 w' w.heap.size (fun _ => True) v0_ r ∧ Below w.heap.size w w' := by
  obtain rfl := Option.some.inj h
  clear h
  have hu := Tryd.underlying31
  go_enter Tryd.func79, Tryd.ntmps79
  go_wp2_with (refine op_build3 rfl 31 _ _ _ rfl (built3 _ _ _) ?_; (repeat refine op_build3 rfl 31 _ _ _ rfl (built3 _ _ _) ?_); refine Kd.R_lit k31 _ 31 ?hg (N := 57) ?hd (xs := cmdsL) (inner := cellsOf cmdsL) (ok := fun _ => True) (okp := fun _ => True) ?hr (reps_cells _ _ _ _) (fun _ hk => hk) trivial (Below.refl _ _) (Nat.le_refl _) (by rw [cmds_len]; decide) ?_; (case hd => rfl); (case hg => rfl); (case hr => kernel_rfl); intro v1 w1 ho hb hg_ hnew_; clear hg_ hnew_; have HO := Aside0.mk ho; have HB := Aside0.mk hb; clear ho hb)
  go_ret
  exact ⟨_, rfl, HO.out, HB.out⟩
end Go.Proofs.YtencimfeipglaaaDoor.X
