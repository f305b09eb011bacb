-- Written by a program of the session (wip/xprint.py): the kit's printer, beside contracts of the session's own.
import Derived.Test.YtccgjpfkepamfaaDoorXx0
import Derived.Test.YtccgjpfkepamfaaDoorXx7
namespace Go.Proofs.YtccgjpfkepamfaaDoor.X
open Go.RowKit Go.Proofs.YtccgjpfkepamfaaDoorW.PrintWords Go.Proofs.YtccgjpfkepamfaaDoorW.PrintLast Go.Proofs.YtccgjpfkepamfaaDoorW.PrintMore
attribute [local go_sem] max2_int min2_int max_two min_two max_three min_three max_four min_four   -- for this text's walks alone
set_option linter.unusedVariables false
set_option linter.unusedSimpArgs false

/-! ### tipstaffref01_Part: function 23 -/
mutual
def tipstaffref01_Part.j0 : Nat → Int → Int → Int → Bool → Option (Int × Int × Bool)
  | 0, _, _, _, _ => none
  | k + 1, x0, x9, x11, x32 => if x32 = true then (some (0, 0, false)) else (tipstaffref01_Part.l0 k x0 x9 x11 0 0 0)
def tipstaffref01_Part.l0 : Nat → Int → Int → Int → Int → Int → Int → Option (Int × Int × Bool)
  | 0, _, _, _, _, _, _ => none
  | k + 1, x0, x9, x11, x13, x14, x15 => if x15 < x0 then (if x9 ≥ 0 then (if x15 ≥ x9 then (if x11 ≥ 0 then (if x15 ≤ x11 then (tipstaffref01_Part.j2 k x0 x9 x11 x13 x14 x15 true) else (if x11 < 0 then (tipstaffref01_Part.j2 k x0 x9 x11 x13 x14 x15 (decide ((wrap64 (x15 - x0)) ≤ x11))) else (tipstaffref01_Part.j2 k x0 x9 x11 x13 x14 x15 false))) else (if x11 < 0 then (tipstaffref01_Part.j2 k x0 x9 x11 x13 x14 x15 (decide ((wrap64 (x15 - x0)) ≤ x11))) else (tipstaffref01_Part.j2 k x0 x9 x11 x13 x14 x15 false))) else (if x9 < 0 then (if (wrap64 (x15 - x0)) ≥ x9 then (if x11 ≥ 0 then (if x15 ≤ x11 then (tipstaffref01_Part.j2 k x0 x9 x11 x13 x14 x15 true) else (if x11 < 0 then (tipstaffref01_Part.j2 k x0 x9 x11 x13 x14 x15 (decide ((wrap64 (x15 - x0)) ≤ x11))) else (tipstaffref01_Part.j2 k x0 x9 x11 x13 x14 x15 false))) else (if x11 < 0 then (tipstaffref01_Part.j2 k x0 x9 x11 x13 x14 x15 (decide ((wrap64 (x15 - x0)) ≤ x11))) else (tipstaffref01_Part.j2 k x0 x9 x11 x13 x14 x15 false))) else (tipstaffref01_Part.j2 k x0 x9 x11 x13 x14 x15 false)) else (tipstaffref01_Part.j2 k x0 x9 x11 x13 x14 x15 false))) else (if x9 < 0 then (if (wrap64 (x15 - x0)) ≥ x9 then (if x11 ≥ 0 then (if x15 ≤ x11 then (tipstaffref01_Part.j2 k x0 x9 x11 x13 x14 x15 true) else (if x11 < 0 then (tipstaffref01_Part.j2 k x0 x9 x11 x13 x14 x15 (decide ((wrap64 (x15 - x0)) ≤ x11))) else (tipstaffref01_Part.j2 k x0 x9 x11 x13 x14 x15 false))) else (if x11 < 0 then (tipstaffref01_Part.j2 k x0 x9 x11 x13 x14 x15 (decide ((wrap64 (x15 - x0)) ≤ x11))) else (tipstaffref01_Part.j2 k x0 x9 x11 x13 x14 x15 false))) else (tipstaffref01_Part.j2 k x0 x9 x11 x13 x14 x15 false)) else (tipstaffref01_Part.j2 k x0 x9 x11 x13 x14 x15 false))) else (some (x13, x14, true))
def tipstaffref01_Part.j2 : Nat → Int → Int → Int → Int → Int → Int → Bool → Option (Int × Int × Bool)
  | 0, _, _, _, _, _, _, _ => none
  | k + 1, x0, x9, x11, x13, x14, x15, x16 => if x16 = true then (tipstaffref01_Part.j3 k x0 x9 x11 x13 x14 x15 x16 (x14 == 0)) else (tipstaffref01_Part.j3 k x0 x9 x11 x13 x14 x15 x16 false)
def tipstaffref01_Part.j3 : Nat → Int → Int → Int → Int → Int → Int → Bool → Bool → Option (Int × Int × Bool)
  | 0, _, _, _, _, _, _, _, _ => none
  | k + 1, x0, x9, x11, x13, x14, x15, x16, x80 => if x80 = true then (if x16 = true then (tipstaffref01_Part.l0 k x0 x9 x11 x15 (wrap64 (x15 + 1)) (wrap64 (x15 + 1))) else (tipstaffref01_Part.l0 k x0 x9 x11 x15 x14 (wrap64 (x15 + 1)))) else (if x16 = true then (tipstaffref01_Part.l0 k x0 x9 x11 x13 (wrap64 (x15 + 1)) (wrap64 (x15 + 1))) else (tipstaffref01_Part.l0 k x0 x9 x11 x13 x14 (wrap64 (x15 + 1))))
end
def tipstaffref01_Part.f (k : Nat) (a0 : Int) (a1 : ByteArray) (a2 : ByteArray) : Option (Int × Int × Bool) := (tipstaffref01_Parse.f k a1).bind fun bt215 => ((tipstaffref01_Parse.f k a2).bind fun bt217 => (if bt215.2 = true then (tipstaffref01_Part.j0 k a0 bt215.1 bt217.1 (!bt217.2)) else (tipstaffref01_Part.j0 k a0 bt215.1 bt217.1 true)))
theorem tipstaffref01_Part.mono_l : ∀ k, (∀ y0 y1 y2 y3, LeO (tipstaffref01_Part.j0 k y0 y1 y2 y3) (tipstaffref01_Part.j0 (k + 1) y0 y1 y2 y3)) ∧ (∀ y0 y1 y2 y3 y4 y5, LeO (tipstaffref01_Part.l0 k y0 y1 y2 y3 y4 y5) (tipstaffref01_Part.l0 (k + 1) y0 y1 y2 y3 y4 y5)) ∧ (∀ y0 y1 y2 y3 y4 y5 y6, LeO (tipstaffref01_Part.j2 k y0 y1 y2 y3 y4 y5 y6) (tipstaffref01_Part.j2 (k + 1) y0 y1 y2 y3 y4 y5 y6)) ∧ (∀ y0 y1 y2 y3 y4 y5 y6 y7, LeO (tipstaffref01_Part.j3 k y0 y1 y2 y3 y4 y5 y6 y7) (tipstaffref01_Part.j3 (k + 1) y0 y1 y2 y3 y4 y5 y6 y7))
  | 0 => ⟨fun _ _ _ _ r h => by simp [tipstaffref01_Part.j0] at h, fun _ _ _ _ _ _ r h => by simp [tipstaffref01_Part.l0] at h, fun _ _ _ _ _ _ _ r h => by simp [tipstaffref01_Part.j2] at h, fun _ _ _ _ _ _ _ _ r h => by simp [tipstaffref01_Part.j3] at h⟩
  | k + 1 => by
    obtain ⟨ih0, ih1, ih2, ih3⟩ := tipstaffref01_Part.mono_l k
    refine ⟨?_, ?_, ?_, ?_⟩
    · intro y0 y1 y2 y3
      unfold tipstaffref01_Part.j0
      repeat' first
      | (with_reducible exact ih0 _ _ _ _)
      | (with_reducible exact ih1 _ _ _ _ _ _)
      | (with_reducible exact ih2 _ _ _ _ _ _ _)
      | (with_reducible exact ih3 _ _ _ _ _ _ _ _)
      | (with_reducible exact tipstaffref01_Parse.mono _ _)
      | (with_reducible exact LeO.refl _)
      | (with_reducible exact LeO.none _)
      | (with_reducible refine LeO.ite ?_ ?_)
      | (with_reducible refine LeO.bind ?_ (fun _ => ?_))
      | exact ih0 _ _ _ _
      | exact ih1 _ _ _ _ _ _
      | exact ih2 _ _ _ _ _ _ _
      | exact ih3 _ _ _ _ _ _ _ _
      | exact tipstaffref01_Parse.mono _ _
      | exact LeO.none _
      | refine LeO.ite ?_ ?_
      | refine LeO.bind ?_ (fun _ => ?_)
    · intro y0 y1 y2 y3 y4 y5
      unfold tipstaffref01_Part.l0
      repeat' first
      | (with_reducible exact ih0 _ _ _ _)
      | (with_reducible exact ih1 _ _ _ _ _ _)
      | (with_reducible exact ih2 _ _ _ _ _ _ _)
      | (with_reducible exact ih3 _ _ _ _ _ _ _ _)
      | (with_reducible exact tipstaffref01_Parse.mono _ _)
      | (with_reducible exact LeO.refl _)
      | (with_reducible exact LeO.none _)
      | (with_reducible refine LeO.ite ?_ ?_)
      | (with_reducible refine LeO.bind ?_ (fun _ => ?_))
      | exact ih0 _ _ _ _
      | exact ih1 _ _ _ _ _ _
      | exact ih2 _ _ _ _ _ _ _
      | exact ih3 _ _ _ _ _ _ _ _
      | exact tipstaffref01_Parse.mono _ _
      | exact LeO.none _
      | refine LeO.ite ?_ ?_
      | refine LeO.bind ?_ (fun _ => ?_)
    · intro y0 y1 y2 y3 y4 y5 y6
      unfold tipstaffref01_Part.j2
      repeat' first
      | (with_reducible exact ih0 _ _ _ _)
      | (with_reducible exact ih1 _ _ _ _ _ _)
      | (with_reducible exact ih2 _ _ _ _ _ _ _)
      | (with_reducible exact ih3 _ _ _ _ _ _ _ _)
      | (with_reducible exact tipstaffref01_Parse.mono _ _)
      | (with_reducible exact LeO.refl _)
      | (with_reducible exact LeO.none _)
      | (with_reducible refine LeO.ite ?_ ?_)
      | (with_reducible refine LeO.bind ?_ (fun _ => ?_))
      | exact ih0 _ _ _ _
      | exact ih1 _ _ _ _ _ _
      | exact ih2 _ _ _ _ _ _ _
      | exact ih3 _ _ _ _ _ _ _ _
      | exact tipstaffref01_Parse.mono _ _
      | exact LeO.none _
      | refine LeO.ite ?_ ?_
      | refine LeO.bind ?_ (fun _ => ?_)
    · intro y0 y1 y2 y3 y4 y5 y6 y7
      unfold tipstaffref01_Part.j3
      repeat' first
      | (with_reducible exact ih0 _ _ _ _)
      | (with_reducible exact ih1 _ _ _ _ _ _)
      | (with_reducible exact ih2 _ _ _ _ _ _ _)
      | (with_reducible exact ih3 _ _ _ _ _ _ _ _)
      | (with_reducible exact tipstaffref01_Parse.mono _ _)
      | (with_reducible exact LeO.refl _)
      | (with_reducible exact LeO.none _)
      | (with_reducible refine LeO.ite ?_ ?_)
      | (with_reducible refine LeO.bind ?_ (fun _ => ?_))
      | exact ih0 _ _ _ _
      | exact ih1 _ _ _ _ _ _
      | exact ih2 _ _ _ _ _ _ _
      | exact ih3 _ _ _ _ _ _ _ _
      | exact tipstaffref01_Parse.mono _ _
      | exact LeO.none _
      | refine LeO.ite ?_ ?_
      | refine LeO.bind ?_ (fun _ => ?_)
theorem tipstaffref01_Part.mono : ∀ a0 a1 a2 k, LeO (tipstaffref01_Part.f k a0 a1 a2) (tipstaffref01_Part.f (k + 1) a0 a1 a2) := by
  intro a0 a1 a2 k
  obtain ⟨ih0, ih1, ih2, ih3⟩ := tipstaffref01_Part.mono_l k
  unfold tipstaffref01_Part.f
  repeat' first
      | (with_reducible exact ih0 _ _ _ _)
      | (with_reducible exact ih1 _ _ _ _ _ _)
      | (with_reducible exact ih2 _ _ _ _ _ _ _)
      | (with_reducible exact ih3 _ _ _ _ _ _ _ _)
      | (with_reducible exact tipstaffref01_Parse.mono _ _)
      | (with_reducible exact LeO.refl _)
      | (with_reducible exact LeO.none _)
      | (with_reducible refine LeO.ite ?_ ?_)
      | (with_reducible refine LeO.bind ?_ (fun _ => ?_))
      | exact ih0 _ _ _ _
      | exact ih1 _ _ _ _ _ _
      | exact ih2 _ _ _ _ _ _ _
      | exact ih3 _ _ _ _ _ _ _ _
      | exact tipstaffref01_Parse.mono _ _
      | exact LeO.none _
      | refine LeO.ite ?_ ?_
      | refine LeO.bind ?_ (fun _ => ?_)
set_option maxHeartbeats 8000000 in
set_option maxRecDepth 100000 in
theorem tipstaffref01_Part.calls (k : Nat) (a0 : Int) (a1 : ByteArray) (a2 : ByteArray) (r1 : Int) (r2 : Int) (r3 : Bool) (w : World) (h : tipstaffref01_Part.f k a0 a1 a2 = some (r1, r2, r3)) :
    Calls Tryd.prog 23 #[.int .i64 a0, .string a1, .string a2] w fun e w' => e = .returned (.tuple #[.int .i64 r1, .int .i64 r2, .bool r3]) ∧ Below w.heap.size w w' := by
  have HB := Aside0.mk (Below.refl w.heap.size w)
  have H : ((tipstaffref01_Parse.f k a1).bind fun bt215 => ((tipstaffref01_Parse.f k a2).bind fun bt217 => (if bt215.2 = true then (tipstaffref01_Part.j0 k a0 bt215.1 bt217.1 (!bt217.2)) else (tipstaffref01_Part.j0 k a0 bt215.1 bt217.1 true)))) = some (r1, r2, r3) := h
  clear h
  replace H := Option.bind_eq_some_iff.mp H
  obtain ⟨⟨t215, t216⟩, A40, H⟩ := H
  replace H : ((tipstaffref01_Parse.f k a2).bind fun bt217 => (if t216 = true then (tipstaffref01_Part.j0 k a0 t215 bt217.1 (!bt217.2)) else (tipstaffref01_Part.j0 k a0 t215 bt217.1 true))) = some (r1, r2, r3) := H
  have A4 := Aside0.mk A40
  clear A40
  replace H := Option.bind_eq_some_iff.mp H
  obtain ⟨⟨t217, t218⟩, A50, H⟩ := H
  replace H : (if t216 = true then (tipstaffref01_Part.j0 k a0 t215 t217 (!t218)) else (tipstaffref01_Part.j0 k a0 t215 t217 true)) = some (r1, r2, r3) := H
  have A5 := Aside0.mk A50
  clear A50
  have HC6 := Aside0.mk H
  clear H
  go_enter Tryd.func23, Tryd.ntmps23
  go_upto_region 3 with (first | ((with_reducible refine gate_callee (f := 17) rfl ?_); refine goesL_ (some 19) rfl rfl Tryd.func17 (by kernel_rfl) rfl #[.string a1] rfl (by (try simp only [List.map_toArray, List.map_cons, List.map_nil]); first | done | rfl | (simp only [List.length_drop, List.length_take]; rfl)) ?_; (with_reducible refine (tipstaffref01_Parse.calls k a1 t215 t216 _ A4.out).mono ?_); rintro e w7 ⟨rfl, hb⟩; refine ⟨_, rfl, ?_⟩; have n0_ := Aside0.mk (below_step (by repeat (first | (with_reducible first | exact HB.out | apply below_alloc | apply pw_below_drewN | apply below_drew1) | exact HB.out)) hb); clear HB; have HB := n0_; clear n0_; (try clear hb); (try clear hb2); (try clear hk); (try clear hi)) | ((with_reducible refine gate_callee (f := 17) rfl ?_); refine goesL_ (some 24) rfl rfl Tryd.func17 (by kernel_rfl) rfl #[.string a2] rfl (by (try simp only [List.map_toArray, List.map_cons, List.map_nil]); first | done | rfl | (simp only [List.length_drop, List.length_take]; rfl)) ?_; (with_reducible refine (tipstaffref01_Parse.calls k a2 t217 t218 _ A5.out).mono ?_); rintro e w8 ⟨rfl, hb⟩; refine ⟨_, rfl, ?_⟩; have n0_ := Aside0.mk (below_step (by repeat (first | (with_reducible first | exact HB.out | apply below_alloc | apply pw_below_drewN | apply below_drew1) | exact HB.out)) hb); clear HB; have HB := n0_; clear n0_; (try clear hb); (try clear hb2); (try clear hk); (try clear hi)))
  (try simp only [Act.put, List.setIfInBounds_toArray, List.set_cons_zero, List.set_cons_succ])
  go_cut [32] (fun v32 wc => ∃ (kq : Nat) (x32_5 : Bool), v32 = .bool x32_5 ∧ Aside0 (tipstaffref01_Part.j0 kq a0 t215 t217 x32_5 = some (r1, r2, r3)) ∧ Aside0 (kq ≤ k) ∧ Aside0 (Below w.heap.size w wc))
  case first =>
    have H := HC6.out
    clear HC6
    by_cases c9 : t216 = true
    · subst c9
      have H1 : (tipstaffref01_Part.j0 k a0 t215 t217 (!t218)) = some (r1, r2, r3) := by rw [if_pos rfl] at H; exact H
      clear H
      have H := H1
      clear H1
      have H' := Aside0.mk H
      clear H
      go_wp2
      go_meet
      case rel => exact ⟨_, (!t218), (by first | rfl | (simp; done) | (simp [*]; done)), H', ⟨by first | omega | exact Nat.le_refl _⟩, ⟨by repeat (first | (with_reducible first | exact HB.out | apply below_alloc | apply pw_below_drewN | apply below_drew1) | exact HB.out)⟩⟩
    · replace c9 := Bool.eq_false_iff.mpr c9
      subst c9
      have H1 : (tipstaffref01_Part.j0 k a0 t215 t217 true) = some (r1, r2, r3) := by rw [if_neg (show ¬ (false = true) by decide)] at H; exact H
      clear H
      have H := H1
      clear H1
      have H' := Aside0.mk H
      clear H
      go_wp2
      go_meet
      case rel => exact ⟨_, (true), (by first | rfl | (simp; done) | (simp [*]; done)), H', ⟨by first | omega | exact Nat.le_refl _⟩, ⟨by repeat (first | (with_reducible first | exact HB.out | apply below_alloc | apply pw_below_drewN | apply below_drew1) | exact HB.out)⟩⟩
  case rest =>
    clear HC6
    try clear c1
    try clear c2
    try clear p2
    try clear c9
    obtain ⟨kq, x32_5, rfl, HA, HJ5, HB⟩ := hcut
    cases kq with
    | zero => exact absurd HA.out (by simp [tipstaffref01_Part.j0])
    | succ kj5 =>
      have H := HA.out
      clear HA
      simp only [tipstaffref01_Part.j0] at H
      by_cases c10 : x32_5 = true
      · subst c10
        have H1 : (some (0, 0, false)) = some (r1, r2, r3) := by rw [if_pos rfl] at H; exact H
        clear H
        have H := H1
        clear H1
        simp only [Option.some.injEq, Prod.mk.injEq] at H
        obtain ⟨rfl, rfl, rfl⟩ := H
        go_wp2
        all_goals go_ret3
        all_goals exact ⟨by first | rfl | (simp [errW_none, errW_some] <;> rfl) | (simp [*, errW_none, errW_some] <;> rfl), by repeat (first | (with_reducible first | exact HB.out | apply below_alloc | apply pw_below_drewN | apply below_drew1) | exact HB.out)⟩
      · replace c10 := Bool.eq_false_iff.mpr c10
        subst c10
        have H1 : (tipstaffref01_Part.l0 kj5 a0 t215 t217 0 0 0) = some (r1, r2, r3) := by rw [if_neg (show ¬ (false = true) by decide)] at H; exact H
        clear H
        have H := H1
        clear H1
        have H' := Aside0.mk H
        clear H
        go_wp2
        go_loopg [13, 14, 15] kj5 (fun kq v13 v14 v15 w' => ∃ (x13_2 : Int) (x14_2 : Int) (x15_2 : Int), v13 = .int .i64 x13_2 ∧ v14 = .int .i64 x14_2 ∧ v15 = .int .i64 x15_2 ∧ Aside0 (tipstaffref01_Part.l0 kq a0 t215 t217 x13_2 x14_2 x15_2 = some (r1, r2, r3)) ∧ Aside0 (kq ≤ kj5) ∧ Aside0 (Below w.heap.size w w'))
        case atStart => exact ⟨(0), (0), (0), (by first | rfl | (simp; done) | (simp [*]; done)), (by first | rfl | (simp; done) | (simp [*]; done)), (by first | rfl | (simp; done) | (simp [*]; done)), H', ⟨Nat.le_refl _⟩, ⟨by repeat (first | (with_reducible first | exact HB.out | apply below_alloc | apply pw_below_drewN | apply below_drew1) | exact HB.out)⟩⟩
        case round =>
          clear H'
          try clear c1
          try clear c2
          try clear p2
          try clear c9
          try clear c10
          try clear p2
          obtain ⟨x13_2, x14_2, x15_2, rfl, rfl, rfl, HA, HK2, HB⟩ := hrel
          cases gk with
          | zero => exact absurd HA.out (by simp [tipstaffref01_Part.l0])
          | succ k2 =>
            have H := HA.out
            clear HA
            simp only [tipstaffref01_Part.l0] at H
            by_cases c11 : x15_2 < a0
            · rw [if_pos c11] at H
              have c11b0 : decide (x15_2 < a0) = true := decide_eq_true c11
              clear c11
              have HC12 := Aside0.mk H
              clear H
              go_upto_region 10 with (fail)
              go_cut [16] (fun v16 wc => ∃ (kq : Nat) (x16_11 : Bool), v16 = .bool x16_11 ∧ Aside0 (tipstaffref01_Part.j2 kq a0 t215 t217 x13_2 x14_2 x15_2 x16_11 = some (r1, r2, r3)) ∧ Aside0 (kq ≤ k2) ∧ Aside0 (Below w.heap.size w wc))
              case first =>
                have H := HC12.out
                clear HC12
                by_cases c13 : t215 ≥ 0
                · rw [if_pos c13] at H
                  have c13b0 : decide (0 ≤ t215) = true := decide_eq_true c13
                  clear c13
                  (first | rw [c13b0] | (simp only [i64_w, i32_w]; rw [c13b0]) | skip)
                  by_cases c14 : x15_2 ≥ t215
                  · rw [if_pos c14] at H
                    have c14b0 : decide (t215 ≤ x15_2) = true := decide_eq_true c14
                    clear c14
                    by_cases c15 : t217 ≥ 0
                    · rw [if_pos c15] at H
                      have c15b0 : decide (0 ≤ t217) = true := decide_eq_true c15
                      clear c15
                      by_cases c16 : x15_2 ≤ t217
                      · rw [if_pos c16] at H
                        have c16b0 : decide (x15_2 ≤ t217) = true := decide_eq_true c16
                        clear c16
                        have H' := Aside0.mk H
                        clear H
                        go_wp2
                        go_meet
                        case rel => exact ⟨_, (true), (by first | rfl | (simp; done) | (simp [*]; done)), H', ⟨by have := HJ5.out; have := HK2.out; first | omega | exact Nat.le_refl _⟩, ⟨by repeat (first | (with_reducible first | exact HB.out | apply below_alloc | apply pw_below_drewN | apply below_drew1) | exact HB.out)⟩⟩
                      · rw [if_neg c16] at H
                        have c16b0 : decide (x15_2 ≤ t217) = false := decide_eq_false c16
                        clear c16
                        by_cases c17 : t217 < 0
                        · rw [if_pos c17] at H
                          have c17b0 : decide (t217 < 0) = true := decide_eq_true c17
                          clear c17
                          have H' := Aside0.mk H
                          clear H
                          go_wp2
                          go_meet
                          case rel => exact ⟨_, (decide ((wrap64 (x15_2 - a0)) ≤ t217)), (by first | rfl | (simp; done) | (simp [*]; done)), H', ⟨by have := HJ5.out; have := HK2.out; first | omega | exact Nat.le_refl _⟩, ⟨by repeat (first | (with_reducible first | exact HB.out | apply below_alloc | apply pw_below_drewN | apply below_drew1) | exact HB.out)⟩⟩
                        · rw [if_neg c17] at H
                          have c17b0 : decide (t217 < 0) = false := decide_eq_false c17
                          clear c17
                          have H' := Aside0.mk H
                          clear H
                          go_wp2
                          go_meet
                          case rel => exact ⟨_, (false), (by first | rfl | (simp; done) | (simp [*]; done)), H', ⟨by have := HJ5.out; have := HK2.out; first | omega | exact Nat.le_refl _⟩, ⟨by repeat (first | (with_reducible first | exact HB.out | apply below_alloc | apply pw_below_drewN | apply below_drew1) | exact HB.out)⟩⟩
                    · rw [if_neg c15] at H
                      have c15b0 : decide (0 ≤ t217) = false := decide_eq_false c15
                      clear c15
                      by_cases c18 : t217 < 0
                      · rw [if_pos c18] at H
                        have c18b0 : decide (t217 < 0) = true := decide_eq_true c18
                        clear c18
                        have H' := Aside0.mk H
                        clear H
                        go_wp2
                        go_meet
                        case rel => exact ⟨_, (decide ((wrap64 (x15_2 - a0)) ≤ t217)), (by first | rfl | (simp; done) | (simp [*]; done)), H', ⟨by have := HJ5.out; have := HK2.out; first | omega | exact Nat.le_refl _⟩, ⟨by repeat (first | (with_reducible first | exact HB.out | apply below_alloc | apply pw_below_drewN | apply below_drew1) | exact HB.out)⟩⟩
                      · rw [if_neg c18] at H
                        have c18b0 : decide (t217 < 0) = false := decide_eq_false c18
                        clear c18
                        have H' := Aside0.mk H
                        clear H
                        go_wp2
                        go_meet
                        case rel => exact ⟨_, (false), (by first | rfl | (simp; done) | (simp [*]; done)), H', ⟨by have := HJ5.out; have := HK2.out; first | omega | exact Nat.le_refl _⟩, ⟨by repeat (first | (with_reducible first | exact HB.out | apply below_alloc | apply pw_below_drewN | apply below_drew1) | exact HB.out)⟩⟩
                  · rw [if_neg c14] at H
                    have c14b0 : decide (t215 ≤ x15_2) = false := decide_eq_false c14
                    clear c14
                    by_cases c19 : t215 < 0
                    · rw [if_pos c19] at H
                      have c19b0 : decide (t215 < 0) = true := decide_eq_true c19
                      clear c19
                      by_cases c20 : (wrap64 (x15_2 - a0)) ≥ t215
                      · rw [if_pos c20] at H
                        have c20b0 : decide (t215 ≤ (wrap64 (x15_2 - a0))) = true := decide_eq_true c20
                        clear c20
                        by_cases c21 : t217 ≥ 0
                        · rw [if_pos c21] at H
                          have c21b0 : decide (0 ≤ t217) = true := decide_eq_true c21
                          clear c21
                          by_cases c22 : x15_2 ≤ t217
                          · rw [if_pos c22] at H
                            have c22b0 : decide (x15_2 ≤ t217) = true := decide_eq_true c22
                            clear c22
                            have H' := Aside0.mk H
                            clear H
                            go_wp2
                            go_meet
                            case rel => exact ⟨_, (true), (by first | rfl | (simp; done) | (simp [*]; done)), H', ⟨by have := HJ5.out; have := HK2.out; first | omega | exact Nat.le_refl _⟩, ⟨by repeat (first | (with_reducible first | exact HB.out | apply below_alloc | apply pw_below_drewN | apply below_drew1) | exact HB.out)⟩⟩
                          · rw [if_neg c22] at H
                            have c22b0 : decide (x15_2 ≤ t217) = false := decide_eq_false c22
                            clear c22
                            by_cases c23 : t217 < 0
                            · rw [if_pos c23] at H
                              have c23b0 : decide (t217 < 0) = true := decide_eq_true c23
                              clear c23
                              have H' := Aside0.mk H
                              clear H
                              go_wp2
                              go_meet
                              case rel => exact ⟨_, (decide ((wrap64 (x15_2 - a0)) ≤ t217)), (by first | rfl | (simp; done) | (simp [*]; done)), H', ⟨by have := HJ5.out; have := HK2.out; first | omega | exact Nat.le_refl _⟩, ⟨by repeat (first | (with_reducible first | exact HB.out | apply below_alloc | apply pw_below_drewN | apply below_drew1) | exact HB.out)⟩⟩
                            · rw [if_neg c23] at H
                              have c23b0 : decide (t217 < 0) = false := decide_eq_false c23
                              clear c23
                              have H' := Aside0.mk H
                              clear H
                              go_wp2
                              go_meet
                              case rel => exact ⟨_, (false), (by first | rfl | (simp; done) | (simp [*]; done)), H', ⟨by have := HJ5.out; have := HK2.out; first | omega | exact Nat.le_refl _⟩, ⟨by repeat (first | (with_reducible first | exact HB.out | apply below_alloc | apply pw_below_drewN | apply below_drew1) | exact HB.out)⟩⟩
                        · rw [if_neg c21] at H
                          have c21b0 : decide (0 ≤ t217) = false := decide_eq_false c21
                          clear c21
                          by_cases c24 : t217 < 0
                          · rw [if_pos c24] at H
                            have c24b0 : decide (t217 < 0) = true := decide_eq_true c24
                            clear c24
                            have H' := Aside0.mk H
                            clear H
                            go_wp2
                            go_meet
                            case rel => exact ⟨_, (decide ((wrap64 (x15_2 - a0)) ≤ t217)), (by first | rfl | (simp; done) | (simp [*]; done)), H', ⟨by have := HJ5.out; have := HK2.out; first | omega | exact Nat.le_refl _⟩, ⟨by repeat (first | (with_reducible first | exact HB.out | apply below_alloc | apply pw_below_drewN | apply below_drew1) | exact HB.out)⟩⟩
                          · rw [if_neg c24] at H
                            have c24b0 : decide (t217 < 0) = false := decide_eq_false c24
                            clear c24
                            have H' := Aside0.mk H
                            clear H
                            go_wp2
                            go_meet
                            case rel => exact ⟨_, (false), (by first | rfl | (simp; done) | (simp [*]; done)), H', ⟨by have := HJ5.out; have := HK2.out; first | omega | exact Nat.le_refl _⟩, ⟨by repeat (first | (with_reducible first | exact HB.out | apply below_alloc | apply pw_below_drewN | apply below_drew1) | exact HB.out)⟩⟩
                      · rw [if_neg c20] at H
                        have c20b0 : decide (t215 ≤ (wrap64 (x15_2 - a0))) = false := decide_eq_false c20
                        clear c20
                        have H' := Aside0.mk H
                        clear H
                        go_wp2
                        go_meet
                        case rel => exact ⟨_, (false), (by first | rfl | (simp; done) | (simp [*]; done)), H', ⟨by have := HJ5.out; have := HK2.out; first | omega | exact Nat.le_refl _⟩, ⟨by repeat (first | (with_reducible first | exact HB.out | apply below_alloc | apply pw_below_drewN | apply below_drew1) | exact HB.out)⟩⟩
                    · rw [if_neg c19] at H
                      have c19b0 : decide (t215 < 0) = false := decide_eq_false c19
                      clear c19
                      have H' := Aside0.mk H
                      clear H
                      go_wp2
                      go_meet
                      case rel => exact ⟨_, (false), (by first | rfl | (simp; done) | (simp [*]; done)), H', ⟨by have := HJ5.out; have := HK2.out; first | omega | exact Nat.le_refl _⟩, ⟨by repeat (first | (with_reducible first | exact HB.out | apply below_alloc | apply pw_below_drewN | apply below_drew1) | exact HB.out)⟩⟩
                · rw [if_neg c13] at H
                  have c13b0 : decide (0 ≤ t215) = false := decide_eq_false c13
                  clear c13
                  (first | rw [c13b0] | (simp only [i64_w, i32_w]; rw [c13b0]) | skip)
                  by_cases c25 : t215 < 0
                  · rw [if_pos c25] at H
                    have c25b0 : decide (t215 < 0) = true := decide_eq_true c25
                    clear c25
                    by_cases c26 : (wrap64 (x15_2 - a0)) ≥ t215
                    · rw [if_pos c26] at H
                      have c26b0 : decide (t215 ≤ (wrap64 (x15_2 - a0))) = true := decide_eq_true c26
                      clear c26
                      by_cases c27 : t217 ≥ 0
                      · rw [if_pos c27] at H
                        have c27b0 : decide (0 ≤ t217) = true := decide_eq_true c27
                        clear c27
                        by_cases c28 : x15_2 ≤ t217
                        · rw [if_pos c28] at H
                          have c28b0 : decide (x15_2 ≤ t217) = true := decide_eq_true c28
                          clear c28
                          have H' := Aside0.mk H
                          clear H
                          go_wp2
                          go_meet
                          case rel => exact ⟨_, (true), (by first | rfl | (simp; done) | (simp [*]; done)), H', ⟨by have := HJ5.out; have := HK2.out; first | omega | exact Nat.le_refl _⟩, ⟨by repeat (first | (with_reducible first | exact HB.out | apply below_alloc | apply pw_below_drewN | apply below_drew1) | exact HB.out)⟩⟩
                        · rw [if_neg c28] at H
                          have c28b0 : decide (x15_2 ≤ t217) = false := decide_eq_false c28
                          clear c28
                          by_cases c29 : t217 < 0
                          · rw [if_pos c29] at H
                            have c29b0 : decide (t217 < 0) = true := decide_eq_true c29
                            clear c29
                            have H' := Aside0.mk H
                            clear H
                            go_wp2
                            go_meet
                            case rel => exact ⟨_, (decide ((wrap64 (x15_2 - a0)) ≤ t217)), (by first | rfl | (simp; done) | (simp [*]; done)), H', ⟨by have := HJ5.out; have := HK2.out; first | omega | exact Nat.le_refl _⟩, ⟨by repeat (first | (with_reducible first | exact HB.out | apply below_alloc | apply pw_below_drewN | apply below_drew1) | exact HB.out)⟩⟩
                          · rw [if_neg c29] at H
                            have c29b0 : decide (t217 < 0) = false := decide_eq_false c29
                            clear c29
                            have H' := Aside0.mk H
                            clear H
                            go_wp2
                            go_meet
                            case rel => exact ⟨_, (false), (by first | rfl | (simp; done) | (simp [*]; done)), H', ⟨by have := HJ5.out; have := HK2.out; first | omega | exact Nat.le_refl _⟩, ⟨by repeat (first | (with_reducible first | exact HB.out | apply below_alloc | apply pw_below_drewN | apply below_drew1) | exact HB.out)⟩⟩
                      · rw [if_neg c27] at H
                        have c27b0 : decide (0 ≤ t217) = false := decide_eq_false c27
                        clear c27
                        by_cases c30 : t217 < 0
                        · rw [if_pos c30] at H
                          have c30b0 : decide (t217 < 0) = true := decide_eq_true c30
                          clear c30
                          have H' := Aside0.mk H
                          clear H
                          go_wp2
                          go_meet
                          case rel => exact ⟨_, (decide ((wrap64 (x15_2 - a0)) ≤ t217)), (by first | rfl | (simp; done) | (simp [*]; done)), H', ⟨by have := HJ5.out; have := HK2.out; first | omega | exact Nat.le_refl _⟩, ⟨by repeat (first | (with_reducible first | exact HB.out | apply below_alloc | apply pw_below_drewN | apply below_drew1) | exact HB.out)⟩⟩
                        · rw [if_neg c30] at H
                          have c30b0 : decide (t217 < 0) = false := decide_eq_false c30
                          clear c30
                          have H' := Aside0.mk H
                          clear H
                          go_wp2
                          go_meet
                          case rel => exact ⟨_, (false), (by first | rfl | (simp; done) | (simp [*]; done)), H', ⟨by have := HJ5.out; have := HK2.out; first | omega | exact Nat.le_refl _⟩, ⟨by repeat (first | (with_reducible first | exact HB.out | apply below_alloc | apply pw_below_drewN | apply below_drew1) | exact HB.out)⟩⟩
                    · rw [if_neg c26] at H
                      have c26b0 : decide (t215 ≤ (wrap64 (x15_2 - a0))) = false := decide_eq_false c26
                      clear c26
                      have H' := Aside0.mk H
                      clear H
                      go_wp2
                      go_meet
                      case rel => exact ⟨_, (false), (by first | rfl | (simp; done) | (simp [*]; done)), H', ⟨by have := HJ5.out; have := HK2.out; first | omega | exact Nat.le_refl _⟩, ⟨by repeat (first | (with_reducible first | exact HB.out | apply below_alloc | apply pw_below_drewN | apply below_drew1) | exact HB.out)⟩⟩
                  · rw [if_neg c25] at H
                    have c25b0 : decide (t215 < 0) = false := decide_eq_false c25
                    clear c25
                    have H' := Aside0.mk H
                    clear H
                    go_wp2
                    go_meet
                    case rel => exact ⟨_, (false), (by first | rfl | (simp; done) | (simp [*]; done)), H', ⟨by have := HJ5.out; have := HK2.out; first | omega | exact Nat.le_refl _⟩, ⟨by repeat (first | (with_reducible first | exact HB.out | apply below_alloc | apply pw_below_drewN | apply below_drew1) | exact HB.out)⟩⟩
              case rest =>
                clear HC12
                try clear c1
                try clear c2
                try clear p2
                try clear c3
                try clear p6
                try clear c9
                try clear c10
                try clear c11
                try clear c11b0
                try clear c13
                try clear c13b0
                try clear c14
                try clear c14b0
                try clear c15
                try clear c15b0
                try clear c16
                try clear c16b0
                try clear c17
                try clear c17b0
                try clear c18
                try clear c18b0
                try clear c19
                try clear c19b0
                try clear c20
                try clear c20b0
                try clear c21
                try clear c21b0
                try clear c22
                try clear c22b0
                try clear c23
                try clear c23b0
                try clear c24
                try clear c24b0
                try clear c25
                try clear c25b0
                try clear c26
                try clear c26b0
                try clear c27
                try clear c27b0
                try clear c28
                try clear c28b0
                try clear c29
                try clear c29b0
                try clear c30
                try clear c30b0
                try clear p2
                obtain ⟨kq, x16_11, rfl, HA, HJ11, HB⟩ := hcut
                cases kq with
                | zero => exact absurd HA.out (by simp [tipstaffref01_Part.j2])
                | succ kj11 =>
                  have H := HA.out
                  clear HA
                  simp only [tipstaffref01_Part.j2] at H
                  have HC31 := Aside0.mk H
                  clear H
                  go_upto_region 11 with (fail)
                  go_cut [80] (fun v80 wc => ∃ (kq : Nat) (x80_30 : Bool), v80 = .bool x80_30 ∧ Aside0 (tipstaffref01_Part.j3 kq a0 t215 t217 x13_2 x14_2 x15_2 x16_11 x80_30 = some (r1, r2, r3)) ∧ Aside0 (kq ≤ kj11) ∧ Aside0 (Below w.heap.size w wc))
                  case first =>
                    have H := HC31.out
                    clear HC31
                    by_cases c32 : x16_11 = true
                    · subst c32
                      have H1 : (tipstaffref01_Part.j3 kj11 a0 t215 t217 x13_2 x14_2 x15_2 true (x14_2 == 0)) = some (r1, r2, r3) := by rw [if_pos rfl] at H; exact H
                      clear H
                      have H := H1
                      clear H1
                      have H' := Aside0.mk H
                      clear H
                      go_wp2
                      go_meet
                      case rel => exact ⟨_, ((x14_2 == 0)), (by first | rfl | (simp; done) | (simp [*]; done)), H', ⟨by have := HJ5.out; have := HK2.out; have := HJ11.out; first | omega | exact Nat.le_refl _⟩, ⟨by repeat (first | (with_reducible first | exact HB.out | apply below_alloc | apply pw_below_drewN | apply below_drew1) | exact HB.out)⟩⟩
                    · replace c32 := Bool.eq_false_iff.mpr c32
                      subst c32
                      have H1 : (tipstaffref01_Part.j3 kj11 a0 t215 t217 x13_2 x14_2 x15_2 false false) = some (r1, r2, r3) := by rw [if_neg (show ¬ (false = true) by decide)] at H; exact H
                      clear H
                      have H := H1
                      clear H1
                      have H' := Aside0.mk H
                      clear H
                      go_wp2
                      go_meet
                      case rel => exact ⟨_, (false), (by first | rfl | (simp; done) | (simp [*]; done)), H', ⟨by have := HJ5.out; have := HK2.out; have := HJ11.out; first | omega | exact Nat.le_refl _⟩, ⟨by repeat (first | (with_reducible first | exact HB.out | apply below_alloc | apply pw_below_drewN | apply below_drew1) | exact HB.out)⟩⟩
                  case rest =>
                    clear HC31
                    try clear c1
                    try clear c2
                    try clear p2
                    try clear c3
                    try clear p6
                    try clear c9
                    try clear c10
                    try clear c11
                    try clear c11b0
                    try clear c13
                    try clear c13b0
                    try clear c14
                    try clear c14b0
                    try clear c15
                    try clear c15b0
                    try clear c16
                    try clear c16b0
                    try clear c17
                    try clear c17b0
                    try clear c18
                    try clear c18b0
                    try clear c19
                    try clear c19b0
                    try clear c20
                    try clear c20b0
                    try clear c21
                    try clear c21b0
                    try clear c22
                    try clear c22b0
                    try clear c23
                    try clear c23b0
                    try clear c24
                    try clear c24b0
                    try clear c25
                    try clear c25b0
                    try clear c26
                    try clear c26b0
                    try clear c27
                    try clear c27b0
                    try clear c28
                    try clear c28b0
                    try clear c29
                    try clear c29b0
                    try clear c30
                    try clear c30b0
                    try clear c32
                    try clear p2
                    try clear p6
                    obtain ⟨kq, x80_30, rfl, HA, HJ30, HB⟩ := hcut
                    cases kq with
                    | zero => exact absurd HA.out (by simp [tipstaffref01_Part.j3])
                    | succ kj30 =>
                      have H := HA.out
                      clear HA
                      simp only [tipstaffref01_Part.j3] at H
                      by_cases c33 : x80_30 = true
                      · subst c33
                        have H1 : (if x16_11 = true then (tipstaffref01_Part.l0 kj30 a0 t215 t217 x15_2 (wrap64 (x15_2 + 1)) (wrap64 (x15_2 + 1))) else (tipstaffref01_Part.l0 kj30 a0 t215 t217 x15_2 x14_2 (wrap64 (x15_2 + 1)))) = some (r1, r2, r3) := by rw [if_pos rfl] at H; exact H
                        clear H
                        have H := H1
                        clear H1
                        by_cases c34 : x16_11 = true
                        · subst c34
                          have H1 : (tipstaffref01_Part.l0 kj30 a0 t215 t217 x15_2 (wrap64 (x15_2 + 1)) (wrap64 (x15_2 + 1))) = some (r1, r2, r3) := by rw [if_pos rfl] at H; exact H
                          clear H
                          have H := H1
                          clear H1
                          have H' := Aside0.mk H
                          clear H
                          go_wp2
                          go_roundg kj30
                          case measure => have := HJ5.out; have := HK2.out; have := HJ11.out; have := HJ30.out; omega
                          case rel => exact ⟨(x15_2), (wrap64 (x15_2 + 1)), (wrap64 (x15_2 + 1)), (by first | rfl | (simp; done) | (simp [*]; done)), (by first | rfl | (simp; done) | (simp [*]; done)), (by first | rfl | (simp; done) | (simp [*]; done)), H', ⟨by have := HJ5.out; have := HK2.out; have := HJ11.out; have := HJ30.out; omega⟩, ⟨by repeat (first | (with_reducible first | exact HB.out | apply below_alloc | apply pw_below_drewN | apply below_drew1) | exact HB.out)⟩⟩
                        · replace c34 := Bool.eq_false_iff.mpr c34
                          subst c34
                          have H1 : (tipstaffref01_Part.l0 kj30 a0 t215 t217 x15_2 x14_2 (wrap64 (x15_2 + 1))) = some (r1, r2, r3) := by rw [if_neg (show ¬ (false = true) by decide)] at H; exact H
                          clear H
                          have H := H1
                          clear H1
                          have H' := Aside0.mk H
                          clear H
                          go_wp2
                          go_roundg kj30
                          case measure => have := HJ5.out; have := HK2.out; have := HJ11.out; have := HJ30.out; omega
                          case rel => exact ⟨(x15_2), (x14_2), (wrap64 (x15_2 + 1)), (by first | rfl | (simp; done) | (simp [*]; done)), (by first | rfl | (simp; done) | (simp [*]; done)), (by first | rfl | (simp; done) | (simp [*]; done)), H', ⟨by have := HJ5.out; have := HK2.out; have := HJ11.out; have := HJ30.out; omega⟩, ⟨by repeat (first | (with_reducible first | exact HB.out | apply below_alloc | apply pw_below_drewN | apply below_drew1) | exact HB.out)⟩⟩
                      · replace c33 := Bool.eq_false_iff.mpr c33
                        subst c33
                        have H1 : (if x16_11 = true then (tipstaffref01_Part.l0 kj30 a0 t215 t217 x13_2 (wrap64 (x15_2 + 1)) (wrap64 (x15_2 + 1))) else (tipstaffref01_Part.l0 kj30 a0 t215 t217 x13_2 x14_2 (wrap64 (x15_2 + 1)))) = some (r1, r2, r3) := by rw [if_neg (show ¬ (false = true) by decide)] at H; exact H
                        clear H
                        have H := H1
                        clear H1
                        by_cases c35 : x16_11 = true
                        · subst c35
                          have H1 : (tipstaffref01_Part.l0 kj30 a0 t215 t217 x13_2 (wrap64 (x15_2 + 1)) (wrap64 (x15_2 + 1))) = some (r1, r2, r3) := by rw [if_pos rfl] at H; exact H
                          clear H
                          have H := H1
                          clear H1
                          have H' := Aside0.mk H
                          clear H
                          go_wp2
                          go_roundg kj30
                          case measure => have := HJ5.out; have := HK2.out; have := HJ11.out; have := HJ30.out; omega
                          case rel => exact ⟨(x13_2), (wrap64 (x15_2 + 1)), (wrap64 (x15_2 + 1)), (by first | rfl | (simp; done) | (simp [*]; done)), (by first | rfl | (simp; done) | (simp [*]; done)), (by first | rfl | (simp; done) | (simp [*]; done)), H', ⟨by have := HJ5.out; have := HK2.out; have := HJ11.out; have := HJ30.out; omega⟩, ⟨by repeat (first | (with_reducible first | exact HB.out | apply below_alloc | apply pw_below_drewN | apply below_drew1) | exact HB.out)⟩⟩
                        · replace c35 := Bool.eq_false_iff.mpr c35
                          subst c35
                          have H1 : (tipstaffref01_Part.l0 kj30 a0 t215 t217 x13_2 x14_2 (wrap64 (x15_2 + 1))) = some (r1, r2, r3) := by rw [if_neg (show ¬ (false = true) by decide)] at H; exact H
                          clear H
                          have H := H1
                          clear H1
                          have H' := Aside0.mk H
                          clear H
                          go_wp2
                          go_roundg kj30
                          case measure => have := HJ5.out; have := HK2.out; have := HJ11.out; have := HJ30.out; omega
                          case rel => exact ⟨(x13_2), (x14_2), (wrap64 (x15_2 + 1)), (by first | rfl | (simp; done) | (simp [*]; done)), (by first | rfl | (simp; done) | (simp [*]; done)), (by first | rfl | (simp; done) | (simp [*]; done)), H', ⟨by have := HJ5.out; have := HK2.out; have := HJ11.out; have := HJ30.out; omega⟩, ⟨by repeat (first | (with_reducible first | exact HB.out | apply below_alloc | apply pw_below_drewN | apply below_drew1) | exact HB.out)⟩⟩
            · rw [if_neg c11] at H
              have c11b0 : decide (x15_2 < a0) = false := decide_eq_false c11
              clear c11
              simp only [Option.some.injEq, Prod.mk.injEq] at H
              obtain ⟨rfl, rfl, rfl⟩ := H
              go_wp2
              all_goals go_ret3
              all_goals exact ⟨by first | rfl | (simp [errW_none, errW_some] <;> rfl) | (simp [*, errW_none, errW_some] <;> rfl), by repeat (first | (with_reducible first | exact HB.out | apply below_alloc | apply pw_below_drewN | apply below_drew1) | exact HB.out)⟩

end Go.Proofs.YtccgjpfkepamfaaDoor.X
