-- Written by a program of the session (wip/xprint.py): the kit's printer, beside contracts of the session's own.
import Derived.Test.YtmbfapgamcbajaaDoorXx0
import Derived.Test.YtmbfapgamcbajaaDoorXx4
import Derived.Test.YtmbfapgamcbajaaDoorStrOrd
namespace Go.Proofs.YtmbfapgamcbajaaDoor.X
open Go.RowKit Go.Proofs.YtmbfapgamcbajaaDoorW.PrintWords Go.Proofs.YtmbfapgamcbajaaDoorW.PrintLast Go.Proofs.YtmbfapgamcbajaaDoorW.PrintMore
attribute [local go_sem] binOp_str_gtr binOp_str_leq binOp_str_geq max2_int min2_int max_two min_two max_three min_three max_four min_four   -- for this text's walks alone
set_option linter.unusedVariables false
set_option linter.unusedSimpArgs false

/-! ### tipstaffref06_head: function 41 -/
mutual
def tipstaffref06_head.l0 : Nat → List Int → Int → Int → Int → Int → Int → Option (Int × Int)
  | 0, _, _, _, _, _, _ => none
  | k + 1, x0, x1, x2, x3, x4, x12 => if x12 < (x0.length : Int) then (tipstaffref06_head.j1 k x0 x1 x2 x3 x4 x12 (decide (x12 < (wrap64 (x1 + 16))))) else (tipstaffref06_head.j1 k x0 x1 x2 x3 x4 x12 false)
def tipstaffref06_head.j1 : Nat → List Int → Int → Int → Int → Int → Int → Bool → Option (Int × Int)
  | 0, _, _, _, _, _, _, _ => none
  | k + 1, x0, x1, x2, x3, x4, x12, x25 => if x25 = true then (if 0 ≤ x12 then (if x12 < (x0.length : Int) then (if (rd x0 x12) = 10 then (if x12 < (wrap64 (x1 + 2)) then (tipstaffref06_head.j2 k x0 x1 x3 x4 x12 true) else (if 0 ≤ (wrap64 (x12 - 1)) then (if (wrap64 (x12 - 1)) < (x0.length : Int) then (if (rd x0 (wrap64 (x12 - 1))) = 13 then (if 0 ≤ x1 then (if x1 < (x0.length : Int) then (tipstaffref06_head.j2 k x0 x1 x3 x4 x12 ((rd x0 x1) != x2)) else (none)) else (none)) else (tipstaffref06_head.j2 k x0 x1 x3 x4 x12 true)) else (none)) else (none))) else (tipstaffref06_head.l0 k x0 x1 x2 x3 x4 (wrap64 (x12 + 1)))) else (none)) else (none)) else (if (wrap64 ((x0.length : Int) - x1)) ≥ 16 then (some (0, (-2))) else (some (0, (-1))))
def tipstaffref06_head.j2 : Nat → List Int → Int → Int → Int → Int → Bool → Option (Int × Int)
  | 0, _, _, _, _, _, _ => none
  | k + 1, x0, x1, x3, x4, x12, x52 => if x52 = true then (some (0, (-2))) else (if 0 ≤ (wrap64 (x1 + 1)) then (if (wrap64 (x1 + 1)) ≤ (wrap64 (x12 - 1)) then (if (wrap64 (x12 - 1)) ≤ (x0.length : Int) then ((tipstaffref01_Parse.f k (strOfNums ((x0.take ((wrap64 (x12 - 1)) : Int).toNat).drop ((wrap64 (x1 + 1)) : Int).toNat))).bind fun bt143 => (if bt143.2 = true then (if bt143.1 < x3 then (some (0, (-2))) else (if bt143.1 > x4 then (some (0, (-2))) else (some (bt143.1, wrap64 (x12 + 1))))) else (some (0, (-2))))) else (none)) else (none)) else (none))
end
def tipstaffref06_head.f (k : Nat) (l0 : List Int) (a1 : Int) (a2 : Int) (a3 : Int) (a4 : Int) : Option (Int × Int) := tipstaffref06_head.l0 k l0 a1 a2 a3 a4 a1
theorem tipstaffref06_head.mono_l : ∀ k, (∀ y0 y1 y2 y3 y4 y5, LeO (tipstaffref06_head.l0 k y0 y1 y2 y3 y4 y5) (tipstaffref06_head.l0 (k + 1) y0 y1 y2 y3 y4 y5)) ∧ (∀ y0 y1 y2 y3 y4 y5 y6, LeO (tipstaffref06_head.j1 k y0 y1 y2 y3 y4 y5 y6) (tipstaffref06_head.j1 (k + 1) y0 y1 y2 y3 y4 y5 y6)) ∧ (∀ y0 y1 y2 y3 y4 y5, LeO (tipstaffref06_head.j2 k y0 y1 y2 y3 y4 y5) (tipstaffref06_head.j2 (k + 1) y0 y1 y2 y3 y4 y5))
  | 0 => ⟨fun _ _ _ _ _ _ r h => by simp [tipstaffref06_head.l0] at h, fun _ _ _ _ _ _ _ r h => by simp [tipstaffref06_head.j1] at h, fun _ _ _ _ _ _ r h => by simp [tipstaffref06_head.j2] at h⟩
  | k + 1 => by
    obtain ⟨ih0, ih1, ih2⟩ := tipstaffref06_head.mono_l k
    refine ⟨?_, ?_, ?_⟩
    · intro y0 y1 y2 y3 y4 y5
      unfold tipstaffref06_head.l0
      repeat' first
      | (with_reducible exact ih0 _ _ _ _ _ _)
      | (with_reducible exact ih1 _ _ _ _ _ _ _)
      | (with_reducible exact ih2 _ _ _ _ _ _)
      | (with_reducible exact tipstaffref01_Parse.mono _ _)
      | (with_reducible exact LeO.refl _)
      | (with_reducible exact LeO.none _)
      | (with_reducible refine LeO.ite ?_ ?_)
      | (with_reducible refine LeO.bind ?_ (fun _ => ?_))
      | exact ih0 _ _ _ _ _ _
      | exact ih1 _ _ _ _ _ _ _
      | exact ih2 _ _ _ _ _ _
      | exact tipstaffref01_Parse.mono _ _
      | exact LeO.none _
      | refine LeO.ite ?_ ?_
      | refine LeO.bind ?_ (fun _ => ?_)
    · intro y0 y1 y2 y3 y4 y5 y6
      unfold tipstaffref06_head.j1
      repeat' first
      | (with_reducible exact ih0 _ _ _ _ _ _)
      | (with_reducible exact ih1 _ _ _ _ _ _ _)
      | (with_reducible exact ih2 _ _ _ _ _ _)
      | (with_reducible exact tipstaffref01_Parse.mono _ _)
      | (with_reducible exact LeO.refl _)
      | (with_reducible exact LeO.none _)
      | (with_reducible refine LeO.ite ?_ ?_)
      | (with_reducible refine LeO.bind ?_ (fun _ => ?_))
      | exact ih0 _ _ _ _ _ _
      | exact ih1 _ _ _ _ _ _ _
      | exact ih2 _ _ _ _ _ _
      | exact tipstaffref01_Parse.mono _ _
      | exact LeO.none _
      | refine LeO.ite ?_ ?_
      | refine LeO.bind ?_ (fun _ => ?_)
    · intro y0 y1 y2 y3 y4 y5
      unfold tipstaffref06_head.j2
      repeat' first
      | (with_reducible exact ih0 _ _ _ _ _ _)
      | (with_reducible exact ih1 _ _ _ _ _ _ _)
      | (with_reducible exact ih2 _ _ _ _ _ _)
      | (with_reducible exact tipstaffref01_Parse.mono _ _)
      | (with_reducible exact LeO.refl _)
      | (with_reducible exact LeO.none _)
      | (with_reducible refine LeO.ite ?_ ?_)
      | (with_reducible refine LeO.bind ?_ (fun _ => ?_))
      | exact ih0 _ _ _ _ _ _
      | exact ih1 _ _ _ _ _ _ _
      | exact ih2 _ _ _ _ _ _
      | exact tipstaffref01_Parse.mono _ _
      | exact LeO.none _
      | refine LeO.ite ?_ ?_
      | refine LeO.bind ?_ (fun _ => ?_)
theorem tipstaffref06_head.mono : ∀ a0 a1 a2 a3 a4 k, LeO (tipstaffref06_head.f k a0 a1 a2 a3 a4) (tipstaffref06_head.f (k + 1) a0 a1 a2 a3 a4) := by
  intro a0 a1 a2 a3 a4 k
  obtain ⟨ih0, ih1, ih2⟩ := tipstaffref06_head.mono_l k
  unfold tipstaffref06_head.f
  repeat' first
      | (with_reducible exact ih0 _ _ _ _ _ _)
      | (with_reducible exact ih1 _ _ _ _ _ _ _)
      | (with_reducible exact ih2 _ _ _ _ _ _)
      | (with_reducible exact tipstaffref01_Parse.mono _ _)
      | (with_reducible exact LeO.refl _)
      | (with_reducible exact LeO.none _)
      | (with_reducible refine LeO.ite ?_ ?_)
      | (with_reducible refine LeO.bind ?_ (fun _ => ?_))
      | exact ih0 _ _ _ _ _ _
      | exact ih1 _ _ _ _ _ _ _
      | exact ih2 _ _ _ _ _ _
      | exact tipstaffref01_Parse.mono _ _
      | exact LeO.none _
      | refine LeO.ite ?_ ?_
      | refine LeO.bind ?_ (fun _ => ?_)
set_option maxHeartbeats 8000000 in
set_option maxRecDepth 100000 in
theorem tipstaffref06_head.calls (k : Nat) (A0 : Option Addr) (c0 : Nat) (l0 : List Int) (a1 : Int) (a2 : Int) (a3 : Int) (a4 : Int) (r1 : Int) (r2 : Int) (w : World) (hr0 : Kd.C (Kd.int .u8) w A0 l0.length l0) (hc0 : l0.length ≤ c0) (h : tipstaffref06_head.f k l0 a1 a2 a3 a4 = some (r1, r2)) :
    Calls Tryd.prog 41 #[.slice A0 l0.length c0, .int .i64 a1, .int .u8 a2, .int .i64 a3, .int .i64 a4] w fun e w' => e = .returned (.tuple #[.int .i64 r1, .int .i64 r2]) ∧ Below w.heap.size w w' := by
  have HR0 := Aside0.mk hr0
  have HC0 := Aside0.mk hc0
  clear hr0 hc0
  have HB := Aside0.mk (Below.refl w.heap.size w)
  have H : (tipstaffref06_head.l0 k l0 a1 a2 a3 a4 a1) = some (r1, r2) := h
  clear h
  have H' := Aside0.mk H
  clear H
  go_enter Tryd.func41, Tryd.ntmps41
  go_wp2
  go_loopg [12] k (fun kq v12 w' => ∃ (x12_1 : Int), v12 = .int .i64 x12_1 ∧ Aside0 (tipstaffref06_head.l0 kq l0 a1 a2 a3 a4 x12_1 = some (r1, r2)) ∧ Aside0 (kq ≤ k) ∧ Aside0 (Below w.heap.size w w'))
  case atStart => exact ⟨(a1), (by first | rfl | (simp; done) | (simp [*]; done)), H', ⟨Nat.le_refl _⟩, ⟨by repeat (first | (with_reducible first | exact HB.out | apply below_alloc | apply pw_below_drewN | apply below_drew1) | exact HB.out)⟩⟩
  case round =>
    clear H'
    try clear p2
    try clear c4
    obtain ⟨x12_1, rfl, HA, HK1, HB⟩ := hrel
    cases gk with
    | zero => exact absurd HA.out (by simp [tipstaffref06_head.l0])
    | succ k1 =>
      have H := HA.out
      clear HA
      simp only [tipstaffref06_head.l0] at H
      have HC6 := Aside0.mk H
      clear H
      go_upto_region 2 with (fail)
      go_cut [25] (fun v25 wc => ∃ (kq : Nat) (x25_5 : Bool), v25 = .bool x25_5 ∧ Aside0 (tipstaffref06_head.j1 kq l0 a1 a2 a3 a4 x12_1 x25_5 = some (r1, r2)) ∧ Aside0 (kq ≤ k1) ∧ Aside0 (Below w.heap.size w wc))
      case first =>
        have H := HC6.out
        clear HC6
        by_cases c7 : x12_1 < (l0.length : Int)
        · rw [if_pos c7] at H
          have c7b0 : decide (x12_1 < (l0.length : Int)) = true := decide_eq_true c7
          clear c7
          (first | rw [c7b0] | (simp only [i64_w, i32_w]; rw [c7b0]) | skip)
          have H' := Aside0.mk H
          clear H
          go_wp2
          go_meet
          case rel => exact ⟨_, (decide (x12_1 < (wrap64 (a1 + 16)))), (by first | rfl | (simp; done) | (simp [*]; done)), H', ⟨by have := HK1.out; first | omega | exact Nat.le_refl _⟩, ⟨by repeat (first | (with_reducible first | exact HB.out | apply below_alloc | apply pw_below_drewN | apply below_drew1) | exact HB.out)⟩⟩
        · rw [if_neg c7] at H
          have c7b0 : decide (x12_1 < (l0.length : Int)) = false := decide_eq_false c7
          clear c7
          (first | rw [c7b0] | (simp only [i64_w, i32_w]; rw [c7b0]) | skip)
          have H' := Aside0.mk H
          clear H
          go_wp2
          go_meet
          case rel => exact ⟨_, (false), (by first | rfl | (simp; done) | (simp [*]; done)), H', ⟨by have := HK1.out; first | omega | exact Nat.le_refl _⟩, ⟨by repeat (first | (with_reducible first | exact HB.out | apply below_alloc | apply pw_below_drewN | apply below_drew1) | exact HB.out)⟩⟩
      case rest =>
        clear HC6
        try clear p2
        try clear c4
        try clear p6
        try clear c7
        try clear c7b0
        try clear p2
        obtain ⟨kq, x25_5, rfl, HA, HJ5, HB⟩ := hcut
        cases kq with
        | zero => exact absurd HA.out (by simp [tipstaffref06_head.j1])
        | succ kj5 =>
          have H := HA.out
          clear HA
          simp only [tipstaffref06_head.j1] at H
          by_cases c8 : x25_5 = true
          · subst c8
            have H1 : (if 0 ≤ x12_1 then (if x12_1 < (l0.length : Int) then (if (rd l0 x12_1) = 10 then (if x12_1 < (wrap64 (a1 + 2)) then (tipstaffref06_head.j2 kj5 l0 a1 a3 a4 x12_1 true) else (if 0 ≤ (wrap64 (x12_1 - 1)) then (if (wrap64 (x12_1 - 1)) < (l0.length : Int) then (if (rd l0 (wrap64 (x12_1 - 1))) = 13 then (if 0 ≤ a1 then (if a1 < (l0.length : Int) then (tipstaffref06_head.j2 kj5 l0 a1 a3 a4 x12_1 ((rd l0 a1) != a2)) else (none)) else (none)) else (tipstaffref06_head.j2 kj5 l0 a1 a3 a4 x12_1 true)) else (none)) else (none))) else (tipstaffref06_head.l0 kj5 l0 a1 a2 a3 a4 (wrap64 (x12_1 + 1)))) else (none)) else (none)) = some (r1, r2) := by rw [if_pos rfl] at H; exact H
            clear H
            have H := H1
            clear H1
            by_cases c9 : 0 ≤ x12_1
            · rw [if_pos c9] at H
              have c9b0 : decide (0 ≤ x12_1) = true := decide_eq_true c9
              clear c9
              by_cases c10 : x12_1 < (l0.length : Int)
              · rw [if_pos c10] at H
                have c10b0 : decide (x12_1 < (l0.length : Int)) = true := decide_eq_true c10
                clear c10
                by_cases c11 : (rd l0 x12_1) = 10
                · rw [if_pos c11] at H
                  have c11b0 : ((rd l0 x12_1) == 10) = true := beq_iff_eq.mpr c11
                  have c11b1 : ((rd l0 x12_1) != 10) = false := bne_eq_false_iff_eq.mpr c11
                  clear c11
                  have HC12 := Aside0.mk H
                  clear H
                  have p139 : 0 ≤ (x12_1 : Int) := of_decide_eq_true (by first | (with_reducible assumption) | assumption)
                  have q139 : x12_1 < (l0.length : Int) := of_decide_eq_true (by first | (with_reducible assumption) | assumption)
                  obtain ⟨ad139, e139, hx139_0⟩ := Kd.at_int HR0.out x12_1 p139 q139
                  cases e139
                  replace hx139_0 := (HB.out.cell (World.block_lt_of_cell? w _ hx139_0)).trans hx139_0
                  replace p139 := eq_true p139
                  replace q139 := eq_true q139
                  go_upto_region 5 with (fail)
                  go_cut [52] (fun v52 wc => ∃ (kq : Nat) (x52_11 : Bool), v52 = .bool x52_11 ∧ Aside0 (tipstaffref06_head.j2 kq l0 a1 a3 a4 x12_1 x52_11 = some (r1, r2)) ∧ Aside0 (kq ≤ kj5) ∧ Aside0 (Below w.heap.size w wc))
                  case first =>
                    have H := HC12.out
                    clear HC12
                    by_cases c13 : x12_1 < (wrap64 (a1 + 2))
                    · rw [if_pos c13] at H
                      have c13b0 : decide (x12_1 < (wrap64 (a1 + 2))) = true := decide_eq_true c13
                      clear c13
                      (first | rw [c13b0] | (simp only [i64_w, i32_w]; rw [c13b0]) | skip)
                      have H' := Aside0.mk H
                      clear H
                      go_wp2
                      go_meet
                      case rel => exact ⟨_, (true), (by first | rfl | (simp; done) | (simp [*]; done)), H', ⟨by have := HK1.out; have := HJ5.out; first | omega | exact Nat.le_refl _⟩, ⟨by repeat (first | (with_reducible first | exact HB.out | apply below_alloc | apply pw_below_drewN | apply below_drew1) | exact HB.out)⟩⟩
                    · rw [if_neg c13] at H
                      have c13b0 : decide (x12_1 < (wrap64 (a1 + 2))) = false := decide_eq_false c13
                      clear c13
                      (first | rw [c13b0] | (simp only [i64_w, i32_w]; rw [c13b0]) | skip)
                      obtain ⟨ji14, hji14⟩ : ∃ j_ : Int, (wrap64 (x12_1 - 1)) = j_ := ⟨_, rfl⟩
                      replace H : (if 0 ≤ (ji14) then (if (ji14) < (l0.length : Int) then (if (rd l0 (ji14)) = 13 then (if 0 ≤ a1 then (if a1 < (l0.length : Int) then (tipstaffref06_head.j2 kj5 l0 a1 a3 a4 x12_1 ((rd l0 a1) != a2)) else (none)) else (none)) else (tipstaffref06_head.j2 kj5 l0 a1 a3 a4 x12_1 true)) else (none)) else (none)) = some (r1, r2) := by first | (rw [hji14] at H; exact H) | (simp only [hji14] at H ⊢; exact H)
                      have hji14w : (IntKind.i64.wrap (x12_1 - 1)) = ji14 := (i64_w _).trans hji14
                      by_cases c15 : 0 ≤ (ji14)
                      · rw [if_pos c15] at H
                        have c15b0 : decide (0 ≤ (ji14)) = true := decide_eq_true c15
                        clear c15
                        by_cases c16 : (ji14) < (l0.length : Int)
                        · rw [if_pos c16] at H
                          have c16b0 : decide ((ji14) < (l0.length : Int)) = true := decide_eq_true c16
                          clear c16
                          by_cases c17 : (rd l0 (ji14)) = 13
                          · rw [if_pos c17] at H
                            have c17b0 : ((rd l0 (ji14)) == 13) = true := beq_iff_eq.mpr c17
                            have c17b1 : ((rd l0 (ji14)) != 13) = false := bne_eq_false_iff_eq.mpr c17
                            clear c17
                            by_cases c18 : 0 ≤ a1
                            · rw [if_pos c18] at H
                              have c18b0 : decide (0 ≤ a1) = true := decide_eq_true c18
                              clear c18
                              by_cases c19 : a1 < (l0.length : Int)
                              · rw [if_pos c19] at H
                                have c19b0 : decide (a1 < (l0.length : Int)) = true := decide_eq_true c19
                                clear c19
                                have H' := Aside0.mk H
                                clear H
                                have p140 : 0 ≤ ((ji14) : Int) := of_decide_eq_true (by first | (with_reducible assumption) | assumption)
                                have q140 : (ji14) < (l0.length : Int) := of_decide_eq_true (by first | (with_reducible assumption) | assumption)
                                obtain ⟨ad140, e140, hx140_0⟩ := Kd.at_int HR0.out (ji14) p140 q140
                                obtain rfl : ad139 = ad140 := (by injection e140)
                                replace hx140_0 := (HB.out.cell (World.block_lt_of_cell? w _ hx140_0)).trans hx140_0
                                replace p140 := eq_true p140
                                replace q140 := eq_true q140
                                have p141 : 0 ≤ (a1 : Int) := of_decide_eq_true (by first | (with_reducible assumption) | assumption)
                                have q141 : a1 < (l0.length : Int) := of_decide_eq_true (by first | (with_reducible assumption) | assumption)
                                obtain ⟨ad141, e141, hx141_0⟩ := Kd.at_int HR0.out a1 p141 q141
                                obtain rfl : ad139 = ad141 := (by injection e141)
                                replace hx141_0 := (HB.out.cell (World.block_lt_of_cell? w _ hx141_0)).trans hx141_0
                                replace p141 := eq_true p141
                                replace q141 := eq_true q141
                                go_wp2
                                go_meet
                                case rel => exact ⟨_, (((rd l0 a1) != a2)), (by first | rfl | (simp; done) | (simp [*]; done)), H', ⟨by have := HK1.out; have := HJ5.out; first | omega | exact Nat.le_refl _⟩, ⟨by repeat (first | (with_reducible first | exact HB.out | apply below_alloc | apply pw_below_drewN | apply below_drew1) | exact HB.out)⟩⟩
                              · rw [if_neg c19] at H
                                exact absurd H (by simp)
                            · rw [if_neg c18] at H
                              exact absurd H (by simp)
                          · rw [if_neg c17] at H
                            have c17b0 : ((rd l0 (ji14)) == 13) = false := beq_eq_false_iff_ne.mpr c17
                            have c17b1 : ((rd l0 (ji14)) != 13) = true := bne_iff_ne.mpr c17
                            have H' := Aside0.mk H
                            clear H
                            have p140 : 0 ≤ ((ji14) : Int) := of_decide_eq_true (by first | (with_reducible assumption) | assumption)
                            have q140 : (ji14) < (l0.length : Int) := of_decide_eq_true (by first | (with_reducible assumption) | assumption)
                            obtain ⟨ad140, e140, hx140_0⟩ := Kd.at_int HR0.out (ji14) p140 q140
                            obtain rfl : ad139 = ad140 := (by injection e140)
                            replace hx140_0 := (HB.out.cell (World.block_lt_of_cell? w _ hx140_0)).trans hx140_0
                            replace p140 := eq_true p140
                            replace q140 := eq_true q140
                            go_wp2
                            go_meet
                            case rel => exact ⟨_, (true), (by first | rfl | (simp; done) | (simp [*]; done)), H', ⟨by have := HK1.out; have := HJ5.out; first | omega | exact Nat.le_refl _⟩, ⟨by repeat (first | (with_reducible first | exact HB.out | apply below_alloc | apply pw_below_drewN | apply below_drew1) | exact HB.out)⟩⟩
                        · rw [if_neg c16] at H
                          exact absurd H (by simp)
                      · rw [if_neg c15] at H
                        exact absurd H (by simp)
                  case rest =>
                    clear HC12
                    try clear c1
                    try clear p1
                    try clear q1
                    try clear hx1
                    try clear p2
                    try clear c4
                    try clear p6
                    try clear c7
                    try clear c7b0
                    try clear c8
                    try clear c9
                    try clear c9b0
                    try clear c10
                    try clear c10b0
                    try clear c11
                    try clear c11b0
                    try clear c11b1
                    try clear c13
                    try clear c13b0
                    try clear p13
                    try clear q13
                    try clear hx13
                    try clear p14
                    try clear q14
                    try clear hx14
                    try clear c15
                    try clear c15b0
                    try clear c16
                    try clear c16b0
                    try clear c17
                    try clear c17b0
                    try clear c17b1
                    try clear c18
                    try clear c18b0
                    try clear c19
                    try clear c19b0
                    try clear hx139_0
                    try clear hx140_0
                    try clear hx141_0
                    try clear p139
                    try clear p140
                    try clear p141
                    try clear p2
                    try clear p6
                    try clear q139
                    try clear q140
                    try clear q141
                    obtain ⟨kq, x52_11, rfl, HA, HJ11, HB⟩ := hcut
                    cases kq with
                    | zero => exact absurd HA.out (by simp [tipstaffref06_head.j2])
                    | succ kj11 =>
                      have H := HA.out
                      clear HA
                      simp only [tipstaffref06_head.j2] at H
                      by_cases c20 : x52_11 = true
                      · subst c20
                        have H1 : (some (0, (-2))) = some (r1, r2) := by rw [if_pos rfl] at H; exact H
                        clear H
                        have H := H1
                        clear H1
                        simp only [Option.some.injEq, Prod.mk.injEq] at H
                        obtain ⟨rfl, rfl⟩ := H
                        go_wp2
                        all_goals go_ret2
                        all_goals exact ⟨by first | rfl | (simp [errW_none, errW_some] <;> rfl) | (simp [*, errW_none, errW_some] <;> rfl), by repeat (first | (with_reducible first | exact HB.out | apply below_alloc | apply pw_below_drewN | apply below_drew1) | exact HB.out)⟩
                      · replace c20 := Bool.eq_false_iff.mpr c20
                        subst c20
                        have H1 : (if 0 ≤ (wrap64 (a1 + 1)) then (if (wrap64 (a1 + 1)) ≤ (wrap64 (x12_1 - 1)) then (if (wrap64 (x12_1 - 1)) ≤ (l0.length : Int) then ((tipstaffref01_Parse.f kj11 (strOfNums ((l0.take ((wrap64 (x12_1 - 1)) : Int).toNat).drop ((wrap64 (a1 + 1)) : Int).toNat))).bind fun bt143 => (if bt143.2 = true then (if bt143.1 < a3 then (some (0, (-2))) else (if bt143.1 > a4 then (some (0, (-2))) else (some (bt143.1, wrap64 (x12_1 + 1))))) else (some (0, (-2))))) else (none)) else (none)) else (none)) = some (r1, r2) := by rw [if_neg (show ¬ (false = true) by decide)] at H; exact H
                        clear H
                        have H := H1
                        clear H1
                        obtain ⟨ji21, hji21⟩ : ∃ j_ : Int, (wrap64 (a1 + 1)) = j_ := ⟨_, rfl⟩
                        replace H : (if 0 ≤ (ji21) then (if (ji21) ≤ (wrap64 (x12_1 - 1)) then (if (wrap64 (x12_1 - 1)) ≤ (l0.length : Int) then ((tipstaffref01_Parse.f kj11 (strOfNums ((l0.take ((wrap64 (x12_1 - 1)) : Int).toNat).drop ((ji21) : Int).toNat))).bind fun bt143 => (if bt143.2 = true then (if bt143.1 < a3 then (some (0, (-2))) else (if bt143.1 > a4 then (some (0, (-2))) else (some (bt143.1, wrap64 (x12_1 + 1))))) else (some (0, (-2))))) else (none)) else (none)) else (none)) = some (r1, r2) := by first | (rw [hji21] at H; exact H) | (simp only [hji21] at H ⊢; exact H)
                        have hji21w : (IntKind.i64.wrap (a1 + 1)) = ji21 := (i64_w _).trans hji21
                        by_cases c22 : 0 ≤ (ji21)
                        · rw [if_pos c22] at H
                          have c22b0 := eq_true c22
                          have c22b1 : decide (0 ≤ (ji21)) = true := decide_eq_true c22
                          clear c22
                          by_cases c23 : (ji21) ≤ (wrap64 (x12_1 - 1))
                          · rw [if_pos c23] at H
                            have c23b0 := eq_true c23
                            have c23b1 : decide ((ji21) ≤ (wrap64 (x12_1 - 1))) = true := decide_eq_true c23
                            clear c23
                            by_cases c24 : (wrap64 (x12_1 - 1)) ≤ (l0.length : Int)
                            · rw [if_pos c24] at H
                              have c24b0 := eq_true c24
                              have c24b1 : decide ((wrap64 (x12_1 - 1)) ≤ (l0.length : Int)) = true := decide_eq_true c24
                              clear c24
                              replace H := Option.bind_eq_some_iff.mp H
                              obtain ⟨⟨t143, t144⟩, A250, H⟩ := H
                              replace H : (if t144 = true then (if t143 < a3 then (some (0, (-2))) else (if t143 > a4 then (some (0, (-2))) else (some (t143, wrap64 (x12_1 + 1))))) else (some (0, (-2)))) = some (r1, r2) := H
                              have A25 := Aside0.mk A250
                              clear A250
                              by_cases c26 : t144 = true
                              · subst c26
                                have H1 : (if t143 < a3 then (some (0, (-2))) else (if t143 > a4 then (some (0, (-2))) else (some (t143, wrap64 (x12_1 + 1))))) = some (r1, r2) := by rw [if_pos rfl] at H; exact H
                                clear H
                                have H := H1
                                clear H1
                                by_cases c27 : t143 < a3
                                · rw [if_pos c27] at H
                                  have c27b0 : decide (t143 < a3) = true := decide_eq_true c27
                                  clear c27
                                  simp only [Option.some.injEq, Prod.mk.injEq] at H
                                  obtain ⟨rfl, rfl⟩ := H
                                  obtain ⟨i028, hi028, _, hsz28, _⟩ := info_parts info5
                                  obtain ⟨A28, hcut28, hA28, hC28⟩ := print_mid_of (P := Tryd.prog) (Value.int .u8) 0 22 5 .i64 .i64 Tryd.underlying22 hi028 hsz28 (some ad139) c0 l0 (ji21) (wrap64 (x12_1 - 1)) (of_decide_eq_true (by first | (with_reducible assumption) | assumption)) (by first | omega | exact of_decide_eq_true (by first | (with_reducible assumption) | assumption)) (of_decide_eq_true (by first | (with_reducible assumption) | assumption)) HC0.out
                                  have HR142 := Aside0.mk (Kd.C_of_reads (h1 := fun _ => rfl) (hA28 _ (Kd.reads_of_C HR0.out)))
                                  have HC142 := Aside0.mk hC28
                                  clear hA28 hC28 hi028 hsz28
                                  have hcv29 := C_string_len (P := Tryd.prog) (A := A28) Tryd.underlying22 Tryd.underlying5 Tryd.underlying9 (Kd.C_below HR142.out HB.out)
                                  go_wp2_with (first | ((with_reducible refine gate_callee (f := 52) rfl ?_); refine goesL_ (some 61) rfl rfl Tryd.func52 (by kernel_rfl) rfl #[.string (strOfNums ((l0.take ((wrap64 (x12_1 - 1)) : Int).toNat).drop ((ji21) : Int).toNat))] rfl (by (try simp only [List.map_toArray, List.map_cons, List.map_nil]); first | done | (simp only [hji21]; rfl) | rfl | (simp only [List.length_drop, List.length_take]; rfl)) ?_; (with_reducible refine (tipstaffref01_Parse.calls kj11 (strOfNums ((l0.take ((wrap64 (x12_1 - 1)) : Int).toNat).drop ((ji21) : Int).toNat)) t143 true _ A25.out).mono ?_); rintro e w30 ⟨rfl, hb⟩; refine ⟨_, rfl, ?_⟩; have n0_ := Aside0.mk (below_step (by repeat (first | (with_reducible first | exact HB.out | apply below_alloc | apply pw_below_drewN | apply below_drew1) | exact HB.out)) hb); clear HB; have HB := n0_; clear n0_; (try clear hb); (try clear hb2); (try clear hk); (try clear hi)))
                                  all_goals go_ret2
                                  all_goals exact ⟨by first | rfl | (simp [errW_none, errW_some] <;> rfl) | (simp only [← hji21]; first | rfl | (simp [errW_none, errW_some] <;> rfl)) | (simp [*, errW_none, errW_some] <;> rfl), by repeat (first | (with_reducible first | exact HB.out | apply below_alloc | apply pw_below_drewN | apply below_drew1) | exact HB.out)⟩
                                · rw [if_neg c27] at H
                                  have c27b0 : decide (t143 < a3) = false := decide_eq_false c27
                                  clear c27
                                  by_cases c31 : t143 > a4
                                  · rw [if_pos c31] at H
                                    have c31b0 : decide (a4 < t143) = true := decide_eq_true c31
                                    clear c31
                                    simp only [Option.some.injEq, Prod.mk.injEq] at H
                                    obtain ⟨rfl, rfl⟩ := H
                                    obtain ⟨i032, hi032, _, hsz32, _⟩ := info_parts info5
                                    obtain ⟨A32, hcut32, hA32, hC32⟩ := print_mid_of (P := Tryd.prog) (Value.int .u8) 0 22 5 .i64 .i64 Tryd.underlying22 hi032 hsz32 (some ad139) c0 l0 (ji21) (wrap64 (x12_1 - 1)) (of_decide_eq_true (by first | (with_reducible assumption) | assumption)) (by first | omega | exact of_decide_eq_true (by first | (with_reducible assumption) | assumption)) (of_decide_eq_true (by first | (with_reducible assumption) | assumption)) HC0.out
                                    have HR142 := Aside0.mk (Kd.C_of_reads (h1 := fun _ => rfl) (hA32 _ (Kd.reads_of_C HR0.out)))
                                    have HC142 := Aside0.mk hC32
                                    clear hA32 hC32 hi032 hsz32
                                    have hcv33 := C_string_len (P := Tryd.prog) (A := A32) Tryd.underlying22 Tryd.underlying5 Tryd.underlying9 (Kd.C_below HR142.out HB.out)
                                    go_wp2_with (first | ((with_reducible refine gate_callee (f := 52) rfl ?_); refine goesL_ (some 61) rfl rfl Tryd.func52 (by kernel_rfl) rfl #[.string (strOfNums ((l0.take ((wrap64 (x12_1 - 1)) : Int).toNat).drop ((ji21) : Int).toNat))] rfl (by (try simp only [List.map_toArray, List.map_cons, List.map_nil]); first | done | (simp only [hji21]; rfl) | rfl | (simp only [List.length_drop, List.length_take]; rfl)) ?_; (with_reducible refine (tipstaffref01_Parse.calls kj11 (strOfNums ((l0.take ((wrap64 (x12_1 - 1)) : Int).toNat).drop ((ji21) : Int).toNat)) t143 true _ A25.out).mono ?_); rintro e w34 ⟨rfl, hb⟩; refine ⟨_, rfl, ?_⟩; have n0_ := Aside0.mk (below_step (by repeat (first | (with_reducible first | exact HB.out | apply below_alloc | apply pw_below_drewN | apply below_drew1) | exact HB.out)) hb); clear HB; have HB := n0_; clear n0_; (try clear hb); (try clear hb2); (try clear hk); (try clear hi)))
                                    all_goals go_ret2
                                    all_goals exact ⟨by first | rfl | (simp [errW_none, errW_some] <;> rfl) | (simp only [← hji21]; first | rfl | (simp [errW_none, errW_some] <;> rfl)) | (simp [*, errW_none, errW_some] <;> rfl), by repeat (first | (with_reducible first | exact HB.out | apply below_alloc | apply pw_below_drewN | apply below_drew1) | exact HB.out)⟩
                                  · rw [if_neg c31] at H
                                    have c31b0 : decide (a4 < t143) = false := decide_eq_false c31
                                    clear c31
                                    simp only [Option.some.injEq, Prod.mk.injEq] at H
                                    obtain ⟨rfl, rfl⟩ := H
                                    obtain ⟨i035, hi035, _, hsz35, _⟩ := info_parts info5
                                    obtain ⟨A35, hcut35, hA35, hC35⟩ := print_mid_of (P := Tryd.prog) (Value.int .u8) 0 22 5 .i64 .i64 Tryd.underlying22 hi035 hsz35 (some ad139) c0 l0 (ji21) (wrap64 (x12_1 - 1)) (of_decide_eq_true (by first | (with_reducible assumption) | assumption)) (by first | omega | exact of_decide_eq_true (by first | (with_reducible assumption) | assumption)) (of_decide_eq_true (by first | (with_reducible assumption) | assumption)) HC0.out
                                    have HR142 := Aside0.mk (Kd.C_of_reads (h1 := fun _ => rfl) (hA35 _ (Kd.reads_of_C HR0.out)))
                                    have HC142 := Aside0.mk hC35
                                    clear hA35 hC35 hi035 hsz35
                                    have hcv36 := C_string_len (P := Tryd.prog) (A := A35) Tryd.underlying22 Tryd.underlying5 Tryd.underlying9 (Kd.C_below HR142.out HB.out)
                                    go_wp2_with (first | ((with_reducible refine gate_callee (f := 52) rfl ?_); refine goesL_ (some 61) rfl rfl Tryd.func52 (by kernel_rfl) rfl #[.string (strOfNums ((l0.take ((wrap64 (x12_1 - 1)) : Int).toNat).drop ((ji21) : Int).toNat))] rfl (by (try simp only [List.map_toArray, List.map_cons, List.map_nil]); first | done | (simp only [hji21]; rfl) | rfl | (simp only [List.length_drop, List.length_take]; rfl)) ?_; (with_reducible refine (tipstaffref01_Parse.calls kj11 (strOfNums ((l0.take ((wrap64 (x12_1 - 1)) : Int).toNat).drop ((ji21) : Int).toNat)) t143 true _ A25.out).mono ?_); rintro e w37 ⟨rfl, hb⟩; refine ⟨_, rfl, ?_⟩; have n0_ := Aside0.mk (below_step (by repeat (first | (with_reducible first | exact HB.out | apply below_alloc | apply pw_below_drewN | apply below_drew1) | exact HB.out)) hb); clear HB; have HB := n0_; clear n0_; (try clear hb); (try clear hb2); (try clear hk); (try clear hi)))
                                    all_goals go_ret2
                                    all_goals exact ⟨by first | rfl | (simp [errW_none, errW_some] <;> rfl) | (simp only [← hji21]; first | rfl | (simp [errW_none, errW_some] <;> rfl)) | (simp [*, errW_none, errW_some] <;> rfl), by repeat (first | (with_reducible first | exact HB.out | apply below_alloc | apply pw_below_drewN | apply below_drew1) | exact HB.out)⟩
                              · replace c26 := Bool.eq_false_iff.mpr c26
                                subst c26
                                have H1 : (some (0, (-2))) = some (r1, r2) := by rw [if_neg (show ¬ (false = true) by decide)] at H; exact H
                                clear H
                                have H := H1
                                clear H1
                                simp only [Option.some.injEq, Prod.mk.injEq] at H
                                obtain ⟨rfl, rfl⟩ := H
                                obtain ⟨i038, hi038, _, hsz38, _⟩ := info_parts info5
                                obtain ⟨A38, hcut38, hA38, hC38⟩ := print_mid_of (P := Tryd.prog) (Value.int .u8) 0 22 5 .i64 .i64 Tryd.underlying22 hi038 hsz38 (some ad139) c0 l0 (ji21) (wrap64 (x12_1 - 1)) (of_decide_eq_true (by first | (with_reducible assumption) | assumption)) (by first | omega | exact of_decide_eq_true (by first | (with_reducible assumption) | assumption)) (of_decide_eq_true (by first | (with_reducible assumption) | assumption)) HC0.out
                                have HR142 := Aside0.mk (Kd.C_of_reads (h1 := fun _ => rfl) (hA38 _ (Kd.reads_of_C HR0.out)))
                                have HC142 := Aside0.mk hC38
                                clear hA38 hC38 hi038 hsz38
                                have hcv39 := C_string_len (P := Tryd.prog) (A := A38) Tryd.underlying22 Tryd.underlying5 Tryd.underlying9 (Kd.C_below HR142.out HB.out)
                                go_wp2_with (first | ((with_reducible refine gate_callee (f := 52) rfl ?_); refine goesL_ (some 61) rfl rfl Tryd.func52 (by kernel_rfl) rfl #[.string (strOfNums ((l0.take ((wrap64 (x12_1 - 1)) : Int).toNat).drop ((ji21) : Int).toNat))] rfl (by (try simp only [List.map_toArray, List.map_cons, List.map_nil]); first | done | (simp only [hji21]; rfl) | rfl | (simp only [List.length_drop, List.length_take]; rfl)) ?_; (with_reducible refine (tipstaffref01_Parse.calls kj11 (strOfNums ((l0.take ((wrap64 (x12_1 - 1)) : Int).toNat).drop ((ji21) : Int).toNat)) t143 false _ A25.out).mono ?_); rintro e w40 ⟨rfl, hb⟩; refine ⟨_, rfl, ?_⟩; have n0_ := Aside0.mk (below_step (by repeat (first | (with_reducible first | exact HB.out | apply below_alloc | apply pw_below_drewN | apply below_drew1) | exact HB.out)) hb); clear HB; have HB := n0_; clear n0_; (try clear hb); (try clear hb2); (try clear hk); (try clear hi)))
                                all_goals go_ret2
                                all_goals exact ⟨by first | rfl | (simp [errW_none, errW_some] <;> rfl) | (simp only [← hji21]; first | rfl | (simp [errW_none, errW_some] <;> rfl)) | (simp [*, errW_none, errW_some] <;> rfl), by repeat (first | (with_reducible first | exact HB.out | apply below_alloc | apply pw_below_drewN | apply below_drew1) | exact HB.out)⟩
                            · rw [if_neg c24] at H
                              exact absurd H (by simp)
                          · rw [if_neg c23] at H
                            exact absurd H (by simp)
                        · rw [if_neg c22] at H
                          exact absurd H (by simp)
                · rw [if_neg c11] at H
                  have c11b0 : ((rd l0 x12_1) == 10) = false := beq_eq_false_iff_ne.mpr c11
                  have c11b1 : ((rd l0 x12_1) != 10) = true := bne_iff_ne.mpr c11
                  have H' := Aside0.mk H
                  clear H
                  have p139 : 0 ≤ (x12_1 : Int) := of_decide_eq_true (by first | (with_reducible assumption) | assumption)
                  have q139 : x12_1 < (l0.length : Int) := of_decide_eq_true (by first | (with_reducible assumption) | assumption)
                  obtain ⟨ad139, e139, hx139_0⟩ := Kd.at_int HR0.out x12_1 p139 q139
                  cases e139
                  replace hx139_0 := (HB.out.cell (World.block_lt_of_cell? w _ hx139_0)).trans hx139_0
                  replace p139 := eq_true p139
                  replace q139 := eq_true q139
                  go_wp2
                  go_roundg kj5
                  case measure => have := HK1.out; have := HJ5.out; omega
                  case rel => exact ⟨(wrap64 (x12_1 + 1)), (by first | rfl | (simp; done) | (simp [*]; done)), H', ⟨by have := HK1.out; have := HJ5.out; omega⟩, ⟨by repeat (first | (with_reducible first | exact HB.out | apply below_alloc | apply pw_below_drewN | apply below_drew1) | exact HB.out)⟩⟩
              · rw [if_neg c10] at H
                exact absurd H (by simp)
            · rw [if_neg c9] at H
              exact absurd H (by simp)
          · replace c8 := Bool.eq_false_iff.mpr c8
            subst c8
            have H1 : (if (wrap64 ((l0.length : Int) - a1)) ≥ 16 then (some (0, (-2))) else (some (0, (-1)))) = some (r1, r2) := by rw [if_neg (show ¬ (false = true) by decide)] at H; exact H
            clear H
            have H := H1
            clear H1
            by_cases c41 : (wrap64 ((l0.length : Int) - a1)) ≥ 16
            · rw [if_pos c41] at H
              have c41b0 : decide (16 ≤ (wrap64 ((l0.length : Int) - a1))) = true := decide_eq_true c41
              clear c41
              simp only [Option.some.injEq, Prod.mk.injEq] at H
              obtain ⟨rfl, rfl⟩ := H
              go_wp2
              all_goals go_ret2
              all_goals exact ⟨by first | rfl | (simp [errW_none, errW_some] <;> rfl) | (simp [*, errW_none, errW_some] <;> rfl), by repeat (first | (with_reducible first | exact HB.out | apply below_alloc | apply pw_below_drewN | apply below_drew1) | exact HB.out)⟩
            · rw [if_neg c41] at H
              have c41b0 : decide (16 ≤ (wrap64 ((l0.length : Int) - a1))) = false := decide_eq_false c41
              clear c41
              simp only [Option.some.injEq, Prod.mk.injEq] at H
              obtain ⟨rfl, rfl⟩ := H
              go_wp2
              all_goals go_ret2
              all_goals exact ⟨by first | rfl | (simp [errW_none, errW_some] <;> rfl) | (simp [*, errW_none, errW_some] <;> rfl), by repeat (first | (with_reducible first | exact HB.out | apply below_alloc | apply pw_below_drewN | apply below_drew1) | exact HB.out)⟩

end Go.Proofs.YtmbfapgamcbajaaDoor.X
