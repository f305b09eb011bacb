-- Written by a program of the session (wip/xprint.py): the kit's printer, beside contracts of the session's own.
import Derived.Test.YtmbfapgamcbajaaDoorXx0
import Derived.Test.YtmbfapgamcbajaaDoorXx3
import Derived.Test.YtmbfapgamcbajaaDoorStrOrd
namespace Go.Proofs.YtmbfapgamcbajaaDoor.X
open Go.RowKit Go.Proofs.YtmbfapgamcbajaaDoorW.PrintWords Go.Proofs.YtmbfapgamcbajaaDoorW.PrintLast Go.Proofs.YtmbfapgamcbajaaDoorW.PrintMore
attribute [local go_sem] binOp_str_gtr binOp_str_leq binOp_str_geq max2_int min2_int max_two min_two max_three min_three max_four min_four   -- for this text's walks alone
set_option linter.unusedVariables false
set_option linter.unusedSimpArgs false

/-! ### tipstaffref01_Parse: function 52 -/
mutual
def tipstaffref01_Parse.j0 : Nat → ByteArray → Bool → Option (Int × Bool)
  | 0, _, _ => none
  | k + 1, x0, x15 => if x15 = true then (some (0, false)) else (tipstaffref01_Parse.l0 k x0 0 0)
def tipstaffref01_Parse.l0 : Nat → ByteArray → Int → Int → Option (Int × Bool)
  | 0, _, _, _ => none
  | k + 1, x0, x4, x5 => if x5 < (x0.size : Int) then (if 0 ≤ x5 then (tipstaffref01_Parse.l0 k x0 (IntKind.u64.wrap ((IntKind.u64.wrap (x4 * 10)) + (((bt x0 x5) - 48) % 256))) (wrap64 (x5 + 1))) else (none)) else (if 0 < (x0.size : Int) then (if (bt x0 0) = 45 then (tipstaffref01_Parse.l1 k x0 0 1) else ((tipstaffref01_Text.f k (wrap64 (x4))).bind fun t138 => (if t138.toList = x0.toList then (some (wrap64 (x4), true)) else (some (0, false))))) else (none))
def tipstaffref01_Parse.l1 : Nat → ByteArray → Int → Int → Option (Int × Bool)
  | 0, _, _, _ => none
  | k + 1, x0, x4, x7 => if x7 < (x0.size : Int) then (if 0 ≤ x7 then (tipstaffref01_Parse.l1 k x0 (IntKind.u64.wrap ((IntKind.u64.wrap (x4 * 10)) + (((bt x0 x7) - 48) % 256))) (wrap64 (x7 + 1))) else (none)) else ((tipstaffref01_Text.f k (wrap64 (-(wrap64 (x4))))).bind fun t137 => (if t137.toList = x0.toList then (some (wrap64 (-(wrap64 (x4))), true)) else (some (0, false))))
end
def tipstaffref01_Parse.f (k : Nat) (a0 : ByteArray) : Option (Int × Bool) := if (a0.size : Int) = 0 then (tipstaffref01_Parse.j0 k a0 true) else (tipstaffref01_Parse.j0 k a0 (decide ((a0.size : Int) > 20)))
theorem tipstaffref01_Parse.mono_l : ∀ k, (∀ y0 y1, LeO (tipstaffref01_Parse.j0 k y0 y1) (tipstaffref01_Parse.j0 (k + 1) y0 y1)) ∧ (∀ y0 y1 y2, LeO (tipstaffref01_Parse.l0 k y0 y1 y2) (tipstaffref01_Parse.l0 (k + 1) y0 y1 y2)) ∧ (∀ y0 y1 y2, LeO (tipstaffref01_Parse.l1 k y0 y1 y2) (tipstaffref01_Parse.l1 (k + 1) y0 y1 y2))
  | 0 => ⟨fun _ _ r h => by simp [tipstaffref01_Parse.j0] at h, fun _ _ _ r h => by simp [tipstaffref01_Parse.l0] at h, fun _ _ _ r h => by simp [tipstaffref01_Parse.l1] at h⟩
  | k + 1 => by
    obtain ⟨ih0, ih1, ih2⟩ := tipstaffref01_Parse.mono_l k
    refine ⟨?_, ?_, ?_⟩
    · intro y0 y1
      unfold tipstaffref01_Parse.j0
      repeat' first
      | (with_reducible exact ih0 _ _)
      | (with_reducible exact ih1 _ _ _)
      | (with_reducible exact ih2 _ _ _)
      | (with_reducible exact tipstaffref01_Text.mono _ _)
      | (with_reducible exact LeO.refl _)
      | (with_reducible exact LeO.none _)
      | (with_reducible refine LeO.ite ?_ ?_)
      | (with_reducible refine LeO.bind ?_ (fun _ => ?_))
      | exact ih0 _ _
      | exact ih1 _ _ _
      | exact ih2 _ _ _
      | exact tipstaffref01_Text.mono _ _
      | exact LeO.none _
      | refine LeO.ite ?_ ?_
      | refine LeO.bind ?_ (fun _ => ?_)
    · intro y0 y1 y2
      unfold tipstaffref01_Parse.l0
      repeat' first
      | (with_reducible exact ih0 _ _)
      | (with_reducible exact ih1 _ _ _)
      | (with_reducible exact ih2 _ _ _)
      | (with_reducible exact tipstaffref01_Text.mono _ _)
      | (with_reducible exact LeO.refl _)
      | (with_reducible exact LeO.none _)
      | (with_reducible refine LeO.ite ?_ ?_)
      | (with_reducible refine LeO.bind ?_ (fun _ => ?_))
      | exact ih0 _ _
      | exact ih1 _ _ _
      | exact ih2 _ _ _
      | exact tipstaffref01_Text.mono _ _
      | exact LeO.none _
      | refine LeO.ite ?_ ?_
      | refine LeO.bind ?_ (fun _ => ?_)
    · intro y0 y1 y2
      unfold tipstaffref01_Parse.l1
      repeat' first
      | (with_reducible exact ih0 _ _)
      | (with_reducible exact ih1 _ _ _)
      | (with_reducible exact ih2 _ _ _)
      | (with_reducible exact tipstaffref01_Text.mono _ _)
      | (with_reducible exact LeO.refl _)
      | (with_reducible exact LeO.none _)
      | (with_reducible refine LeO.ite ?_ ?_)
      | (with_reducible refine LeO.bind ?_ (fun _ => ?_))
      | exact ih0 _ _
      | exact ih1 _ _ _
      | exact ih2 _ _ _
      | exact tipstaffref01_Text.mono _ _
      | exact LeO.none _
      | refine LeO.ite ?_ ?_
      | refine LeO.bind ?_ (fun _ => ?_)
theorem tipstaffref01_Parse.mono : ∀ a0 k, LeO (tipstaffref01_Parse.f k a0) (tipstaffref01_Parse.f (k + 1) a0) := by
  intro a0 k
  obtain ⟨ih0, ih1, ih2⟩ := tipstaffref01_Parse.mono_l k
  unfold tipstaffref01_Parse.f
  repeat' first
      | (with_reducible exact ih0 _ _)
      | (with_reducible exact ih1 _ _ _)
      | (with_reducible exact ih2 _ _ _)
      | (with_reducible exact tipstaffref01_Text.mono _ _)
      | (with_reducible exact LeO.refl _)
      | (with_reducible exact LeO.none _)
      | (with_reducible refine LeO.ite ?_ ?_)
      | (with_reducible refine LeO.bind ?_ (fun _ => ?_))
      | exact ih0 _ _
      | exact ih1 _ _ _
      | exact ih2 _ _ _
      | exact tipstaffref01_Text.mono _ _
      | exact LeO.none _
      | refine LeO.ite ?_ ?_
      | refine LeO.bind ?_ (fun _ => ?_)
set_option maxHeartbeats 8000000 in
set_option maxRecDepth 100000 in
theorem tipstaffref01_Parse.calls (k : Nat) (a0 : ByteArray) (r1 : Int) (r2 : Bool) (w : World) (h : tipstaffref01_Parse.f k a0 = some (r1, r2)) :
    Calls Tryd.prog 52 #[.string a0] w fun e w' => e = .returned (.tuple #[.int .i64 r1, .bool r2]) ∧ Below w.heap.size w w' := by
  have HB := Aside0.mk (Below.refl w.heap.size w)
  have H : (if (a0.size : Int) = 0 then (tipstaffref01_Parse.j0 k a0 true) else (tipstaffref01_Parse.j0 k a0 (decide ((a0.size : Int) > 20)))) = some (r1, r2) := h
  clear h
  have HC2 := Aside0.mk H
  clear H
  go_enter Tryd.func52, Tryd.ntmps52
  go_upto_region 1 with (fail)
  go_cut [15] (fun v15 wc => ∃ (kq : Nat) (x15_1 : Bool), v15 = .bool x15_1 ∧ Aside0 (tipstaffref01_Parse.j0 kq a0 x15_1 = some (r1, r2)) ∧ Aside0 (kq ≤ k) ∧ Aside0 (Below w.heap.size w wc))
  case first =>
    have H := HC2.out
    clear HC2
    by_cases c3 : (a0.size : Int) = 0
    · rw [if_pos c3] at H
      have c3b0 : ((a0.size : Int) == 0) = true := beq_iff_eq.mpr c3
      have c3b1 : ((a0.size : Int) != 0) = false := bne_eq_false_iff_eq.mpr c3
      clear c3
      (first | rw [c3b0] | (simp only [i64_w, i32_w]; rw [c3b0]) | skip)
      have H' := Aside0.mk H
      clear H
      go_wp2
      go_meet
      case rel => exact ⟨_, (true), (by first | rfl | (simp; done) | (simp [*]; done)), H', ⟨by first | omega | exact Nat.le_refl _⟩, ⟨by repeat (first | (with_reducible first | exact HB.out | apply below_alloc | apply pw_below_drewN | apply below_drew1) | exact HB.out)⟩⟩
    · rw [if_neg c3] at H
      have c3b0 : ((a0.size : Int) == 0) = false := beq_eq_false_iff_ne.mpr c3
      have c3b1 : ((a0.size : Int) != 0) = true := bne_iff_ne.mpr c3
      (first | rw [c3b0] | (simp only [i64_w, i32_w]; rw [c3b0]) | skip)
      have H' := Aside0.mk H
      clear H
      go_wp2
      go_meet
      case rel => exact ⟨_, (decide ((a0.size : Int) > 20)), (by first | rfl | (simp; done) | (simp [*]; done)), H', ⟨by first | omega | exact Nat.le_refl _⟩, ⟨by repeat (first | (with_reducible first | exact HB.out | apply below_alloc | apply pw_below_drewN | apply below_drew1) | exact HB.out)⟩⟩
  case rest =>
    clear HC2
    try clear p2
    try clear c3
    try clear c3b0
    try clear c3b1
    obtain ⟨kq, x15_1, rfl, HA, HJ1, HB⟩ := hcut
    cases kq with
    | zero => exact absurd HA.out (by simp [tipstaffref01_Parse.j0])
    | succ kj1 =>
      have H := HA.out
      clear HA
      simp only [tipstaffref01_Parse.j0] at H
      by_cases c4 : x15_1 = true
      · subst c4
        have H1 : (some (0, false)) = some (r1, r2) := by rw [if_pos rfl] at H; exact H
        clear H
        have H := H1
        clear H1
        simp only [Option.some.injEq, Prod.mk.injEq] at H
        obtain ⟨rfl, rfl⟩ := H
        go_wp2
        all_goals go_ret2
        all_goals exact ⟨by first | rfl | (simp [errW_none, errW_some] <;> rfl) | (simp [*, errW_none, errW_some] <;> rfl), by repeat (first | (with_reducible first | exact HB.out | apply below_alloc | apply pw_below_drewN | apply below_drew1) | exact HB.out)⟩
      · replace c4 := Bool.eq_false_iff.mpr c4
        subst c4
        have H1 : (tipstaffref01_Parse.l0 kj1 a0 0 0) = some (r1, r2) := by rw [if_neg (show ¬ (false = true) by decide)] at H; exact H
        clear H
        have H := H1
        clear H1
        have H' := Aside0.mk H
        clear H
        go_wp2
        go_loopg [4, 5] kj1 (fun kq v4 v5 w' => ∃ (x4_2 : Int) (x5_2 : Int), v4 = .int .u64 x4_2 ∧ v5 = .int .i64 x5_2 ∧ Aside0 (tipstaffref01_Parse.l0 kq a0 x4_2 x5_2 = some (r1, r2)) ∧ Aside0 (kq ≤ kj1) ∧ Aside0 (Below w.heap.size w w'))
        case atStart => exact ⟨(0), (0), (by first | rfl | (simp; done) | (simp [*]; done)), (by first | rfl | (simp; done) | (simp [*]; done)), H', ⟨Nat.le_refl _⟩, ⟨by repeat (first | (with_reducible first | exact HB.out | apply below_alloc | apply pw_below_drewN | apply below_drew1) | exact HB.out)⟩⟩
        case round =>
          clear H'
          try clear p2
          try clear c3
          try clear c3b0
          try clear c3b1
          try clear c4
          try clear p2
          obtain ⟨x4_2, x5_2, rfl, rfl, HA, HK2, HB⟩ := hrel
          cases gk with
          | zero => exact absurd HA.out (by simp [tipstaffref01_Parse.l0])
          | succ k2 =>
            have H := HA.out
            clear HA
            simp only [tipstaffref01_Parse.l0] at H
            by_cases c5 : x5_2 < (a0.size : Int)
            · rw [if_pos c5] at H
              have c5b0 : decide (x5_2 < (a0.size : Int)) = true := decide_eq_true c5
              clear c5
              by_cases c6 : 0 ≤ x5_2
              · rw [if_pos c6] at H
                have c6b0 : decide (0 ≤ x5_2) = true := decide_eq_true c6
                clear c6
                have H' := Aside0.mk H
                clear H
                have p7 : 0 ≤ (x5_2 : Int) := of_decide_eq_true (by first | (with_reducible assumption) | assumption)
                have q7 : x5_2 < (a0.size : Int) := of_decide_eq_true (by first | (with_reducible assumption) | assumption)
                have hx7 := bt_at a0 x5_2
                replace p7 := eq_true p7
                replace q7 := eq_true q7
                go_wp2
                go_roundg k2
                case measure => have := HJ1.out; have := HK2.out; omega
                case rel => exact ⟨(IntKind.u64.wrap ((IntKind.u64.wrap (x4_2 * 10)) + (((bt a0 x5_2) - 48) % 256))), (wrap64 (x5_2 + 1)), (by first | rfl | (simp; done) | (simp [*]; done)), (by first | rfl | (simp; done) | (simp [*]; done)), H', ⟨by have := HJ1.out; have := HK2.out; omega⟩, ⟨by repeat (first | (with_reducible first | exact HB.out | apply below_alloc | apply pw_below_drewN | apply below_drew1) | exact HB.out)⟩⟩
              · rw [if_neg c6] at H
                exact absurd H (by simp)
            · rw [if_neg c5] at H
              have c5b0 : decide (x5_2 < (a0.size : Int)) = false := decide_eq_false c5
              clear c5
              by_cases c8 : 0 < (a0.size : Int)
              · rw [if_pos c8] at H
                have c8b0 : decide (0 < (a0.size : Int)) = true := decide_eq_true c8
                have c8b1 : decide (0 < a0.size) = true := decide_eq_true (by omega)
                clear c8
                by_cases c10 : (bt a0 0) = 45
                · rw [if_pos c10] at H
                  have c10b0 : ((bt a0 0) == 45) = true := beq_iff_eq.mpr c10
                  have c10b1 : ((bt a0 0) != 45) = false := bne_eq_false_iff_eq.mpr c10
                  clear c10
                  have H' := Aside0.mk H
                  clear H
                  have p9 : 0 ≤ (0 : Int) := (by omega)
                  have q9 : 0 < a0.size := (by have : (0 : Int) < (a0.size : Int) := of_decide_eq_true (by first | (with_reducible assumption) | assumption); omega)
                  have hx9 : ∀ h : 0 < a0.size, ((a0[0]'h).toNat : Int) = bt a0 0 := bt_at a0 0
                  clear p9
                  have qi9 : (0 < (a0.size : Int)) = True := eq_true (of_decide_eq_true (by first | (with_reducible assumption) | assumption))
                  replace q9 := eq_true q9
                  go_wp2
                  go_loopg [4, 7] k2 (fun kq v4 v7 w' => ∃ (x4_3 : Int) (x7_3 : Int), v4 = .int .u64 x4_3 ∧ v7 = .int .i64 x7_3 ∧ Aside0 (tipstaffref01_Parse.l1 kq a0 x4_3 x7_3 = some (r1, r2)) ∧ Aside0 (kq ≤ k2) ∧ Aside0 (Below w.heap.size w w'))
                  case atStart => exact ⟨(0), (1), (by first | rfl | (simp; done) | (simp [*]; done)), (by first | rfl | (simp; done) | (simp [*]; done)), H', ⟨Nat.le_refl _⟩, ⟨by repeat (first | (with_reducible first | exact HB.out | apply below_alloc | apply pw_below_drewN | apply below_drew1) | exact HB.out)⟩⟩
                  case round =>
                    clear H'
                    try clear c1
                    try clear p2
                    try clear c3
                    try clear c3b0
                    try clear c3b1
                    try clear c4
                    try clear c5
                    try clear c5b0
                    try clear c6
                    try clear c6b0
                    try clear p6
                    try clear p7
                    try clear q7
                    try clear hx7
                    try clear c8
                    try clear c8b0
                    try clear c8b1
                    try clear p9
                    try clear q9
                    try clear hx9
                    try clear qi9
                    try clear c10
                    try clear c10b0
                    try clear c10b1
                    try clear p2
                    try clear p7
                    try clear p9
                    try clear q7
                    try clear q9
                    obtain ⟨x4_3, x7_3, rfl, rfl, HA, HK3, HB⟩ := hrel
                    cases gk with
                    | zero => exact absurd HA.out (by simp [tipstaffref01_Parse.l1])
                    | succ k3 =>
                      have H := HA.out
                      clear HA
                      simp only [tipstaffref01_Parse.l1] at H
                      by_cases c11 : x7_3 < (a0.size : Int)
                      · rw [if_pos c11] at H
                        have c11b0 : decide (x7_3 < (a0.size : Int)) = true := decide_eq_true c11
                        clear c11
                        by_cases c12 : 0 ≤ x7_3
                        · rw [if_pos c12] at H
                          have c12b0 : decide (0 ≤ x7_3) = true := decide_eq_true c12
                          clear c12
                          have H' := Aside0.mk H
                          clear H
                          have p13 : 0 ≤ (x7_3 : Int) := of_decide_eq_true (by first | (with_reducible assumption) | assumption)
                          have q13 : x7_3 < (a0.size : Int) := of_decide_eq_true (by first | (with_reducible assumption) | assumption)
                          have hx13 := bt_at a0 x7_3
                          replace p13 := eq_true p13
                          replace q13 := eq_true q13
                          go_wp2
                          go_roundg k3
                          case measure => have := HJ1.out; have := HK2.out; have := HK3.out; omega
                          case rel => exact ⟨(IntKind.u64.wrap ((IntKind.u64.wrap (x4_3 * 10)) + (((bt a0 x7_3) - 48) % 256))), (wrap64 (x7_3 + 1)), (by first | rfl | (simp; done) | (simp [*]; done)), (by first | rfl | (simp; done) | (simp [*]; done)), H', ⟨by have := HJ1.out; have := HK2.out; have := HK3.out; omega⟩, ⟨by repeat (first | (with_reducible first | exact HB.out | apply below_alloc | apply pw_below_drewN | apply below_drew1) | exact HB.out)⟩⟩
                        · rw [if_neg c12] at H
                          exact absurd H (by simp)
                      · rw [if_neg c11] at H
                        have c11b0 : decide (x7_3 < (a0.size : Int)) = false := decide_eq_false c11
                        clear c11
                        replace H := Option.bind_eq_some_iff.mp H
                        obtain ⟨t137, A140, H⟩ := H
                        replace H : (if t137.toList = a0.toList then (some (wrap64 (-(wrap64 (x4_3))), true)) else (some (0, false))) = some (r1, r2) := H
                        have A14 := Aside0.mk A140
                        clear A140
                        by_cases c15 : t137.toList = a0.toList
                        · rw [if_pos c15] at H
                          have c15b0 : (t137.toList == a0.toList) = true := beq_iff_eq.mpr c15
                          have c15b1 : (t137.toList != a0.toList) = false := bne_eq_false_iff_eq.mpr c15
                          clear c15
                          simp only [Option.some.injEq, Prod.mk.injEq] at H
                          obtain ⟨rfl, rfl⟩ := H
                          go_wp2_with (first | ((with_reducible refine gate_callee (f := 54) rfl ?_); refine goesL_ (some 53) rfl rfl Tryd.func54 (by kernel_rfl) rfl #[.int .i64 (wrap64 (-(wrap64 (x4_3))))] rfl (by (try simp only [List.map_toArray, List.map_cons, List.map_nil]); first | done | rfl | (simp only [List.length_drop, List.length_take]; rfl)) ?_; (with_reducible refine (tipstaffref01_Text.calls k3 (wrap64 (-(wrap64 (x4_3)))) t137 _ A14.out).mono ?_); rintro e w16 ⟨rfl, hb⟩; refine ⟨_, rfl, ?_⟩; have n0_ := Aside0.mk (below_step (by repeat (first | (with_reducible first | exact HB.out | apply below_alloc | apply pw_below_drewN | apply below_drew1) | exact HB.out)) hb); clear HB; have HB := n0_; clear n0_; (try clear hb); (try clear hb2); (try clear hk); (try clear hi)))
                          all_goals go_ret2
                          all_goals exact ⟨by first | rfl | (simp [errW_none, errW_some] <;> rfl) | (simp [*, errW_none, errW_some] <;> rfl), by repeat (first | (with_reducible first | exact HB.out | apply below_alloc | apply pw_below_drewN | apply below_drew1) | exact HB.out)⟩
                        · rw [if_neg c15] at H
                          have c15b0 : (t137.toList == a0.toList) = false := beq_eq_false_iff_ne.mpr c15
                          have c15b1 : (t137.toList != a0.toList) = true := bne_iff_ne.mpr c15
                          simp only [Option.some.injEq, Prod.mk.injEq] at H
                          obtain ⟨rfl, rfl⟩ := H
                          go_wp2_with (first | ((with_reducible refine gate_callee (f := 54) rfl ?_); refine goesL_ (some 53) rfl rfl Tryd.func54 (by kernel_rfl) rfl #[.int .i64 (wrap64 (-(wrap64 (x4_3))))] rfl (by (try simp only [List.map_toArray, List.map_cons, List.map_nil]); first | done | rfl | (simp only [List.length_drop, List.length_take]; rfl)) ?_; (with_reducible refine (tipstaffref01_Text.calls k3 (wrap64 (-(wrap64 (x4_3)))) t137 _ A14.out).mono ?_); rintro e w17 ⟨rfl, hb⟩; refine ⟨_, rfl, ?_⟩; have n0_ := Aside0.mk (below_step (by repeat (first | (with_reducible first | exact HB.out | apply below_alloc | apply pw_below_drewN | apply below_drew1) | exact HB.out)) hb); clear HB; have HB := n0_; clear n0_; (try clear hb); (try clear hb2); (try clear hk); (try clear hi)))
                          all_goals go_ret2
                          all_goals exact ⟨by first | rfl | (simp [errW_none, errW_some] <;> rfl) | (simp [*, errW_none, errW_some] <;> rfl), by repeat (first | (with_reducible first | exact HB.out | apply below_alloc | apply pw_below_drewN | apply below_drew1) | exact HB.out)⟩
                · rw [if_neg c10] at H
                  have c10b0 : ((bt a0 0) == 45) = false := beq_eq_false_iff_ne.mpr c10
                  have c10b1 : ((bt a0 0) != 45) = true := bne_iff_ne.mpr c10
                  replace H := Option.bind_eq_some_iff.mp H
                  obtain ⟨t138, A180, H⟩ := H
                  replace H : (if t138.toList = a0.toList then (some (wrap64 (x4_2), true)) else (some (0, false))) = some (r1, r2) := H
                  have A18 := Aside0.mk A180
                  clear A180
                  by_cases c19 : t138.toList = a0.toList
                  · rw [if_pos c19] at H
                    have c19b0 : (t138.toList == a0.toList) = true := beq_iff_eq.mpr c19
                    have c19b1 : (t138.toList != a0.toList) = false := bne_eq_false_iff_eq.mpr c19
                    clear c19
                    simp only [Option.some.injEq, Prod.mk.injEq] at H
                    obtain ⟨rfl, rfl⟩ := H
                    have p9 : 0 ≤ (0 : Int) := (by omega)
                    have q9 : 0 < a0.size := (by have : (0 : Int) < (a0.size : Int) := of_decide_eq_true (by first | (with_reducible assumption) | assumption); omega)
                    have hx9 : ∀ h : 0 < a0.size, ((a0[0]'h).toNat : Int) = bt a0 0 := bt_at a0 0
                    clear p9
                    have qi9 : (0 < (a0.size : Int)) = True := eq_true (of_decide_eq_true (by first | (with_reducible assumption) | assumption))
                    replace q9 := eq_true q9
                    go_wp2_with (first | ((with_reducible refine gate_callee (f := 54) rfl ?_); refine goesL_ (some 53) rfl rfl Tryd.func54 (by kernel_rfl) rfl #[.int .i64 (wrap64 (x4_2))] rfl (by (try simp only [List.map_toArray, List.map_cons, List.map_nil]); first | done | rfl | (simp only [List.length_drop, List.length_take]; rfl)) ?_; (with_reducible refine (tipstaffref01_Text.calls k2 (wrap64 (x4_2)) t138 _ A18.out).mono ?_); rintro e w20 ⟨rfl, hb⟩; refine ⟨_, rfl, ?_⟩; have n0_ := Aside0.mk (below_step (by repeat (first | (with_reducible first | exact HB.out | apply below_alloc | apply pw_below_drewN | apply below_drew1) | exact HB.out)) hb); clear HB; have HB := n0_; clear n0_; (try clear hb); (try clear hb2); (try clear hk); (try clear hi)))
                    all_goals go_ret2
                    all_goals exact ⟨by first | rfl | (simp [errW_none, errW_some] <;> rfl) | (simp [*, errW_none, errW_some] <;> rfl), by repeat (first | (with_reducible first | exact HB.out | apply below_alloc | apply pw_below_drewN | apply below_drew1) | exact HB.out)⟩
                  · rw [if_neg c19] at H
                    have c19b0 : (t138.toList == a0.toList) = false := beq_eq_false_iff_ne.mpr c19
                    have c19b1 : (t138.toList != a0.toList) = true := bne_iff_ne.mpr c19
                    simp only [Option.some.injEq, Prod.mk.injEq] at H
                    obtain ⟨rfl, rfl⟩ := H
                    have p9 : 0 ≤ (0 : Int) := (by omega)
                    have q9 : 0 < a0.size := (by have : (0 : Int) < (a0.size : Int) := of_decide_eq_true (by first | (with_reducible assumption) | assumption); omega)
                    have hx9 : ∀ h : 0 < a0.size, ((a0[0]'h).toNat : Int) = bt a0 0 := bt_at a0 0
                    clear p9
                    have qi9 : (0 < (a0.size : Int)) = True := eq_true (of_decide_eq_true (by first | (with_reducible assumption) | assumption))
                    replace q9 := eq_true q9
                    go_wp2_with (first | ((with_reducible refine gate_callee (f := 54) rfl ?_); refine goesL_ (some 53) rfl rfl Tryd.func54 (by kernel_rfl) rfl #[.int .i64 (wrap64 (x4_2))] rfl (by (try simp only [List.map_toArray, List.map_cons, List.map_nil]); first | done | rfl | (simp only [List.length_drop, List.length_take]; rfl)) ?_; (with_reducible refine (tipstaffref01_Text.calls k2 (wrap64 (x4_2)) t138 _ A18.out).mono ?_); rintro e w21 ⟨rfl, hb⟩; refine ⟨_, rfl, ?_⟩; have n0_ := Aside0.mk (below_step (by repeat (first | (with_reducible first | exact HB.out | apply below_alloc | apply pw_below_drewN | apply below_drew1) | exact HB.out)) hb); clear HB; have HB := n0_; clear n0_; (try clear hb); (try clear hb2); (try clear hk); (try clear hi)))
                    all_goals go_ret2
                    all_goals exact ⟨by first | rfl | (simp [errW_none, errW_some] <;> rfl) | (simp [*, errW_none, errW_some] <;> rfl), by repeat (first | (with_reducible first | exact HB.out | apply below_alloc | apply pw_below_drewN | apply below_drew1) | exact HB.out)⟩
              · rw [if_neg c8] at H
                exact absurd H (by simp)

end Go.Proofs.YtmbfapgamcbajaaDoor.X
