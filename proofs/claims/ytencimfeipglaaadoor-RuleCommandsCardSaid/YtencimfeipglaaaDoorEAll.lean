/- The document's commands (ref07.All): the program's very list. -/
import Derived.Test.YtencimfeipglaaaDoorETab
set_option linter.unusedVariables false
set_option linter.unusedSimpArgs false
namespace Go.Proofs.YtencimfeipglaaaDoor.X
open Go.RowKit Go.Proofs.YtencimfeipglaaaDoorW.PrintWords Go.Proofs.YtencimfeipglaaaDoorW.PrintLast Go.Proofs.YtencimfeipglaaaDoorW.PrintMore

theorem set3 {w : World} {q : Nat} {a0 a1 a2 : Value} {t : TypeId} (h : w.heap[q]? = some (.cells #[a0, a1, a2] t (0, 0))) (b0 b1 b2 : Value) :
    (((w.setCell ⟨q, 0, none⟩ b0).setCell ⟨q, 1, none⟩ b1).setCell ⟨q, 2, none⟩ b2).heap[q]? = some (.cells #[b0, b1, b2] t (0, 0)) :=
  blk_put (blk_put (blk_put h 0 b0 rfl) 1 b1 rfl) 2 b2 rfl
set_option maxHeartbeats 1000000 in
theorem one_b (b : Bool) (n : ByteArray) (a g : Int) (w : World) : Calls Tryd.prog 62 #[.string n, .int .i64 a, .int .u16 g, .bool b] w fun e w' => e = .returned (.agg #[.string n, .int .i64 a, .int .u16 (IntKind.u16.wrap (g + (bif b then 2 else 1)))]) ∧ Below w.heap.size w w' := by
  have hnew : (w.alloc (.cells #[.string ⟨#[]⟩, .int .i64 0, .int .u16 0] 31)).heap[w.heap.size]? = some (.cells #[.string ⟨#[]⟩, .int .i64 0, .int .u16 0] 31 (0, 0)) := heap_alloc_new w _
  have HB := Aside0.mk (below_alloc (Below.refl w.heap.size w) (.cells #[.string ⟨#[]⟩, .int .i64 0, .int .u16 0] 31))
  obtain ⟨w0, hw0⟩ : ∃ w0, w.alloc (.cells #[.string ⟨#[]⟩, .int .i64 0, .int .u16 0] 31) = w0 := ⟨_, rfl⟩
  rw [hw0] at hnew HB
  have HN := Aside0.mk hnew
  have z0 : w0.cell? ⟨w.heap.size, 0, none⟩ = some (.string ⟨#[]⟩) := (pw_cells hnew 0).1
  have z1 : w0.cell? ⟨w.heap.size, 1, none⟩ = some (.int .i64 0) := (pw_cells hnew 1).1
  have z2 : w0.cell? ⟨w.heap.size, 2, none⟩ = some (.int .u16 0) := (pw_cells hnew 2).1
  have f0 : w0.frozen? ⟨w.heap.size, 0, none⟩ = false := (pw_cells hnew 0).2
  have f1 : w0.frozen? ⟨w.heap.size, 1, none⟩ = false := (pw_cells hnew 1).2
  have f2 : w0.frozen? ⟨w.heap.size, 2, none⟩ = false := (pw_cells hnew 2).2
  clear hnew
  have hu := Tryd.underlying31
  have hle := Aside0.mk (Nat.le_refl w.heap.size)
  cases b with
  | true =>
    go_enter Tryd.func62, Tryd.ntmps62
    go_wp2
    refine bodyPost_ret (results_cell_row rfl _ _ w.heap.size 31 #[.string n, .int .i64 a, .int .u16 (IntKind.u16.wrap (g + 2))] (0, 0) _ rfl (set3 HN.out _ _ _) Tryd.underlying31 rfl (by kernel_rfl)) rfl ?_
    exact ⟨rfl, below_set (below_set (below_set HB.out (Nat.le_refl _)) (Nat.le_refl _)) (Nat.le_refl _)⟩
  | false =>
    go_enter Tryd.func62, Tryd.ntmps62
    go_wp2
    refine bodyPost_ret (results_cell_row rfl _ _ w.heap.size 31 #[.string n, .int .i64 a, .int .u16 (IntKind.u16.wrap (g + 1))] (0, 0) _ rfl (set3 HN.out _ _ _) Tryd.underlying31 rfl (by kernel_rfl)) rfl ?_
    exact ⟨rfl, below_set (below_set (below_set HB.out (Nat.le_refl _)) (Nat.le_refl _)) (Nat.le_refl _)⟩

section
variable {ops : Array Oper} {rest : List Oper} {o : Oper} {a : Act} {w : World} {Q : Exit → Act → World → Prop}
/-- A call of 'one' with constants. -/
theorem op_one (hgd : o.guard = none) (n : ByteArray) (k g : Int) (b : Bool) (ts : Array TypeId)
    (hop : o.op = .call { callee := .value (.func 62), args := #[.const (.string n), .const (.int .i64 k), .const (.int .u16 g), .const (.bool b)], argTypes := ts })
    (hK : ∀ w', Below w.heap.size w w' → wpList Tryd.prog ops Q rest (a.put o.dst (.agg #[.string n, .int .i64 k, .int .u16 (IntKind.u16.wrap (g + (bif b then 2 else 1)))])) w') : wpList Tryd.prog ops Q (o :: rest) a w := by
  refine goesL_ o.dst rfl hgd Tryd.func62 (by kernel_rfl) rfl #[.string n, .int .i64 k, .int .u16 g, .bool b] hop (by simp [Act.eval]) ?_
  refine (one_b b n k g w).mono ?_
  rintro e w1 ⟨rfl, hb⟩
  exact ⟨_, rfl, hK w1 hb⟩
end
def cmds1 : List S31 := cmdsL.take 43
def cmds2 : List S31 := cmdsL.drop 43
theorem cmds12 : cmds1 ++ cmds2 = cmdsL := List.take_append_drop 43 cmdsL
theorem len1 : cmds1.length = 43 := rfl
theorem len2 : cmds2.length = 13 := rfl

theorem infoC : (Tryd.prog.info? 31).map (fun i => (i.zero, i.size, i.bytes)) = some (some (.agg #[(.string ⟨#[]⟩), (.int .i64 0), (.int .u16 0)]), 3, 32) := by kernel_rfl
set_option maxHeartbeats 8000000 in
set_option maxRecDepth 100000 in
theorem all_any (w : World) :
    Calls Tryd.prog 43 #[] w fun e w' => ∃ v0_ : Value, e = .returned (v0_) ∧ Kd.R k31 31 w' w.heap.size (fun _ => True) v0_ cmdsL ∧ Below w.heap.size w w' := by
  have HB := Aside0.mk (Below.refl w.heap.size w)
  go_enter Tryd.func43, Tryd.ntmps43
  go_wp2_with (first
    | (refine op_one rfl _ _ _ _ _ rfl ?_; intro w1 hb; have n0_ := Aside0.mk (below_then HB.out HB.out.size hb); clear hb; clear HB; have HB := n0_; clear n0_; (repeat (refine op_one rfl _ _ _ _ _ rfl ?_; intro w1 hb; have n0_ := Aside0.mk (below_then HB.out HB.out.size hb); clear hb; clear HB; have HB := n0_; clear n0_)); refine Kd.R_lit k31 (w0 := w) w.heap.size 31 ?hg (N := 46) ?hd (xs := cmds1) (inner := cellsOf cmds1) (ok := fun _ => True) (okp := fun _ => True) ?hr (reps_cells _ _ _ _) (fun _ hk => hk) trivial HB.out HB.out.size (by decide) ?_; (case hd => rfl); (case hg => rfl); (case hr => kernel_rfl); intro v1 w1 ho hb hg_ hnew_; clear hg_ hnew_; have n1_ := Aside0.mk ho; have n0_ := Aside0.mk hb; clear HB; have HO1 := n1_; have HB := n0_; clear n0_ n1_; clear ho hb)
    | (refine op_build3 rfl 31 _ _ _ rfl (built3 _ _ _) ?_; (repeat refine op_build3 rfl 31 _ _ _ rfl (built3 _ _ _) ?_); refine Kd.R_lit k31 _ 31 ?hg (N := 60) ?hd (xs := cmds2) (inner := cellsOf cmds2) (ok := fun _ => True) (okp := fun _ => True) ?hr (reps_cells _ _ _ _) (fun _ hk => hk) trivial (Below.refl _ _) (Nat.le_refl _) (by decide) ?_; (case hd => rfl); (case hg => rfl); (case hr => kernel_rfl); intro v2 w2 ho hb hg_ hnew_; clear hg_ hnew_; have n1_ := Aside0.mk (Kd.R_elder' HO1.out (Kd.R_base ho) hb); have n2_ := Aside0.mk (Kd.R_lower (Kd.R_new' ho (Kd.R_lt HO1.out)) HB.out.size); have n0_ := Aside0.mk (below_then HB.out HB.out.size hb); clear HB HO1; have HO1 := n1_; have HO2 := n2_; have HB := n0_; clear n0_ n1_ n2_; clear ho hb; obtain ⟨A2, c2, e2⟩ := Kd.R_slice HO2.out; subst e2)
    | (at_builtin; refine Kd.R_append_rows k31 (w0 := w) w.heap.size rfl (.tmp 61) (.tmp 62) 69 31 (.agg #[(.string ⟨#[]⟩), (.int .i64 0), (.int .u16 0)]) 32 rfl Tryd.underlying69 infoC rfl (by decide) (by omega) _ cmds1 cmds2 _ _ _ (fun k_ => some k_ ≠ (.slice A2 cmds2.length c2 : Value).ownBlock) (fun _ => False) rfl rfl (Kd.R_mono HO1.out (fun _ hk => hk.2)) (Kd.R_reads' HO2.out).2.2 (fun _ _ h => h) (fun _ h => h.elim) (fun k_ hk => Kd.fresh' (Kd.R_lt HO2.out) k_ hk) HB.out HB.out.size (by rw [len1, len2]; omega) ?_; intro v3 w3 ho hb hg hat; rw [cmds12] at ho; have HO3 := Aside0.mk ho; have HB3 := Aside0.mk hb; clear ho hb hg hat))
  go_ret
  exact ⟨_, rfl, Kd.R_mono HO3.out (fun _ hk => trivial), HB3.out⟩

def tipstaffref07_All.f : Option (List S31) := some cmdsL
theorem tipstaffref07_All.calls (r : List S31) (w : World) (h : tipstaffref07_All.f = some r) :
    Calls Tryd.prog 43 #[] w fun e w' => ∃ v0_ : Value, e = .returned (v0_) ∧ Kd.R k31 31 w' w.heap.size (fun _ => True) v0_ r ∧ Below w.heap.size w w' := by
  obtain rfl := Option.some.inj h
  exact all_any w
end Go.Proofs.YtencimfeipglaaaDoor.X
