-- Written by a program of the session (wip/xprint.py): the kit's printer, beside contracts of the session's own.
import Derived.Test.YtmhdkjihhdljlaaXx12h
namespace Go.Proofs.Ytmhdkjihhdljlaa.X
open Go.RowKit Go.Proofs.YtmhdkjihhdljlaaW.PrintWords Go.Proofs.YtmhdkjihhdljlaaW.PrintLast Go.Proofs.YtmhdkjihhdljlaaW.PrintMore
attribute [local go_sem] binOp_str_gtr binOp_str_leq binOp_str_geq max2_int min2_int max_two min_two max_three min_three max_four min_four   -- for this text's walks alone
set_option linter.unusedVariables false
set_option linter.unusedSimpArgs false
set_option maxHeartbeats 8000000 in
set_option maxRecDepth 100000 in
theorem tipstaffref09_Fit.part4 (k : Nat) (a0_0 : Int) (a0_1 : ByteArray) (A0_2 : Option Addr) (c0_2 : Nat) (l0_2 : List ByteArray) (A0_3 : Option Addr) (c0_3 : Nat) (l0_3 : List (S66)) (A0_4 : Option Addr) (c0_4 : Nat) (l0_4 : List (S69)) (r1 : Int) (r2 : ByteArray) (r3 : List ByteArray) (r4 : List (S66)) (r5 : List (S69)) (w : World) (hr0_2 : Kd.C Kd.string w A0_2 l0_2.length l0_2) (hc0_2 : l0_2.length ≤ c0_2) (hr0_3 : Kd.C k66 w A0_3 l0_3.length l0_3) (hc0_3 : l0_3.length ≤ c0_3) (hr0_4 : Kd.C k69 w A0_4 l0_4.length l0_4) (hc0_4 : l0_4.length ≤ c0_4) (h : tipstaffref09_Fit.f k a0_0 a0_1 l0_2 l0_3 l0_4 = some (r1, r2, r3, r4, r5)) (h_c5 : ¬ ((Int.tmod a0_0 6) = 1)) (h_c19 : ¬ ((Int.tmod a0_0 6) = 2)) (h_c56 : ¬ ((Int.tmod a0_0 6) = 4)) (h_c91 : ¬ ((Int.tmod a0_0 6) = 3)) (h_c151 : (Int.tmod a0_0 6) = 5) :
    Calls Try.prog 11 #[.agg #[.int .u8 a0_0, .string a0_1, .slice A0_2 l0_2.length c0_2, .slice A0_3 l0_3.length c0_3, .slice A0_4 l0_4.length c0_4]] w fun e w' => ∃ v2_ v3_ v4_ : Value, e = .returned (.agg #[.int .u8 r1, .string r2, v2_, v3_, v4_]) ∧ Kd.R Kd.string 9 w' w.heap.size (fun _ => True) v2_ r3 ∧ Kd.R k66 66 w' w.heap.size (fun _ => True) v3_ r4 ∧ Kd.R k69 69 w' w.heap.size (fun _ => True) v4_ r5 ∧ Below w.heap.size w w' := by
  have hu26 := Try.underlying26
  have hu66 := Try.underlying66
  have hu69 := Try.underlying69
  have HR0_2 := Aside0.mk hr0_2
  have HC0_2 := Aside0.mk hc0_2
  clear hr0_2 hc0_2
  have HR0_3 := Aside0.mk hr0_3
  have HC0_3 := Aside0.mk hc0_3
  clear hr0_3 hc0_3
  have HR0_4 := Aside0.mk hr0_4
  have HC0_4 := Aside0.mk hc0_4
  clear hr0_4 hc0_4
  have HB := Aside0.mk (Below.refl w.heap.size w)
  have H : (if 0 ≤ (mn (l0_2.length : Int) 8) then (if (mn (l0_2.length : Int) 8) ≤ (l0_2.length : Int) then (if (Int.tmod a0_0 6) = 1 then (if 0 ≤ (mn (a0_1.size : Int) 40) then (if (mn (a0_1.size : Int) 40) ≤ (a0_1.size : Int) then (some (1, a0_1.extract 0 ((mn (a0_1.size : Int) 40) : Int).toNat, ([] : List ByteArray), ([] : List (S66)), ([] : List (S69)))) else (none)) else (none)) else (if (Int.tmod a0_0 6) = 2 then ((some (([] : List ByteArray) : List ByteArray)).bind fun y206 => (if y206.length + (l0_2.take ((mn (l0_2.length : Int) 8) : Int).toNat).length < 8796093022208 then ((some (y206 ++ (l0_2.take ((mn (l0_2.length : Int) 8) : Int).toNat) : List ByteArray)).bind fun y209 => ((tipstaffref09_Size.f k 2 (⟨#[]⟩ : ByteArray) y209 ([] : List (S66)) ([] : List (S69))).bind fun t212 => (if t212 = 0 then (some (0, (⟨#[]⟩ : ByteArray), ([] : List ByteArray), ([] : List (S66)), ([] : List (S69)))) else (some (2, (⟨#[]⟩ : ByteArray), y209, ([] : List (S66)), ([] : List (S69))))))) else (none))) else (if (Int.tmod a0_0 6) = 4 then (tipstaffref09_Fit.l0 k (l0_2.take ((mn (l0_2.length : Int) 8) : Int).toNat) 0 0 (⟨#[]⟩ : ByteArray) ([] : List ByteArray)) else (if (Int.tmod a0_0 6) = 3 then (tipstaffref09_Fit.l1 k 0 a0_0 a0_1 l0_2 l0_3 l0_4 0 (⟨#[]⟩ : ByteArray) ([] : List (S66))) else (if (Int.tmod a0_0 6) = 5 then (tipstaffref09_Fit.l2 k 0 a0_0 a0_1 l0_2 l0_3 l0_4 0 (⟨#[]⟩ : ByteArray) ([] : List (S69))) else ((tipstaffref09_Size.f k 0 (⟨#[]⟩ : ByteArray) ([] : List ByteArray) ([] : List (S66)) ([] : List (S69))).bind fun t230 => (if t230 = 0 then (some (0, (⟨#[]⟩ : ByteArray), ([] : List ByteArray), ([] : List (S66)), ([] : List (S69)))) else (some (0, (⟨#[]⟩ : ByteArray), ([] : List ByteArray), ([] : List (S66)), ([] : List (S69))))))))))) else (none)) else (none)) = some (r1, r2, r3, r4, r5) := h
  clear h
  obtain ⟨ji2, hji2⟩ : ∃ j_ : Int, (mn (l0_2.length : Int) 8) = j_ := ⟨_, rfl⟩
  replace H : (if 0 ≤ (ji2) then (if (ji2) ≤ (l0_2.length : Int) then (if (Int.tmod a0_0 6) = 1 then (if 0 ≤ (mn (a0_1.size : Int) 40) then (if (mn (a0_1.size : Int) 40) ≤ (a0_1.size : Int) then (some (1, a0_1.extract 0 ((mn (a0_1.size : Int) 40) : Int).toNat, ([] : List ByteArray), ([] : List (S66)), ([] : List (S69)))) else (none)) else (none)) else (if (Int.tmod a0_0 6) = 2 then ((some (([] : List ByteArray) : List ByteArray)).bind fun y206 => (if y206.length + (l0_2.take ((ji2) : Int).toNat).length < 8796093022208 then ((some (y206 ++ (l0_2.take ((ji2) : Int).toNat) : List ByteArray)).bind fun y209 => ((tipstaffref09_Size.f k 2 (⟨#[]⟩ : ByteArray) y209 ([] : List (S66)) ([] : List (S69))).bind fun t212 => (if t212 = 0 then (some (0, (⟨#[]⟩ : ByteArray), ([] : List ByteArray), ([] : List (S66)), ([] : List (S69)))) else (some (2, (⟨#[]⟩ : ByteArray), y209, ([] : List (S66)), ([] : List (S69))))))) else (none))) else (if (Int.tmod a0_0 6) = 4 then (tipstaffref09_Fit.l0 k (l0_2.take ((ji2) : Int).toNat) 0 0 (⟨#[]⟩ : ByteArray) ([] : List ByteArray)) else (if (Int.tmod a0_0 6) = 3 then (tipstaffref09_Fit.l1 k 0 a0_0 a0_1 l0_2 l0_3 l0_4 0 (⟨#[]⟩ : ByteArray) ([] : List (S66))) else (if (Int.tmod a0_0 6) = 5 then (tipstaffref09_Fit.l2 k 0 a0_0 a0_1 l0_2 l0_3 l0_4 0 (⟨#[]⟩ : ByteArray) ([] : List (S69))) else ((tipstaffref09_Size.f k 0 (⟨#[]⟩ : ByteArray) ([] : List ByteArray) ([] : List (S66)) ([] : List (S69))).bind fun t230 => (if t230 = 0 then (some (0, (⟨#[]⟩ : ByteArray), ([] : List ByteArray), ([] : List (S66)), ([] : List (S69)))) else (some (0, (⟨#[]⟩ : ByteArray), ([] : List ByteArray), ([] : List (S66)), ([] : List (S69))))))))))) else (none)) else (none)) = some (r1, r2, r3, r4, r5) := by first | (rw [hji2] at H; exact H) | (simp only [hji2] at H ⊢; exact H)
  (try (have hji2h : ji2 ≤ 8 := by (rw [← hji2]; unfold mn; (repeat' split) <;> omega)))
  (try (have hji2g : ji2 ≤ 64 := by omega))
  (try (have hji2l : 0 ≤ ji2 := by (rw [← hji2]; unfold mn; (repeat' split) <;> omega)))
  (try (have hji2m : 0 ≤ ji2 := by omega))
  have hji2_ : (if 8 < (l0_2.length : Int) then 8 else (l0_2.length : Int)) = ji2 := hji2
  by_cases c3 : 0 ≤ (ji2)
  rotate_left
  · rw [if_neg c3] at H
    exact absurd H (by simp)
  rw [if_pos c3] at H
  have c3b0 := eq_true c3
  have c3b1 : decide (0 ≤ (ji2)) = true := decide_eq_true c3
  clear c3
  by_cases c4 : (ji2) ≤ (l0_2.length : Int)
  rotate_left
  · rw [if_neg c4] at H
    exact absurd H (by simp)
  rw [if_pos c4] at H
  have c4b0 := eq_true c4
  have c4b1 : decide ((ji2) ≤ (l0_2.length : Int)) = true := decide_eq_true c4
  clear c4
  have c5 := h_c5
  clear h_c5
  rw [if_neg c5] at H
  have c5b0 : ((Int.tmod a0_0 6) == 1) = false := beq_eq_false_iff_ne.mpr c5
  have c5b1 : ((Int.tmod a0_0 6) != 1) = true := bne_iff_ne.mpr c5
  have c19 := h_c19
  clear h_c19
  rw [if_neg c19] at H
  have c19b0 : ((Int.tmod a0_0 6) == 2) = false := beq_eq_false_iff_ne.mpr c19
  have c19b1 : ((Int.tmod a0_0 6) != 2) = true := bne_iff_ne.mpr c19
  have c56 := h_c56
  clear h_c56
  rw [if_neg c56] at H
  have c56b0 : ((Int.tmod a0_0 6) == 4) = false := beq_eq_false_iff_ne.mpr c56
  have c56b1 : ((Int.tmod a0_0 6) != 4) = true := bne_iff_ne.mpr c56
  have c91 := h_c91
  clear h_c91
  rw [if_neg c91] at H
  have c91b0 : ((Int.tmod a0_0 6) == 3) = false := beq_eq_false_iff_ne.mpr c91
  have c91b1 : ((Int.tmod a0_0 6) != 3) = true := bne_iff_ne.mpr c91
  have c151 := h_c151
  clear h_c151
  rw [if_pos c151] at H
  have c151b0 : ((Int.tmod a0_0 6) == 5) = true := beq_iff_eq.mpr c151
  have c151b1 : ((Int.tmod a0_0 6) != 5) = false := bne_eq_false_iff_eq.mpr c151
  clear c151
  have H' := Aside0.mk H
  clear H
  go_enter Try.func11, Try.ntmps11
  go_wp2_with (first | ((with_reducible refine gate_dst (N := 1) rfl ?_); refine box_event ?hg (N := 1) ?hd (cs := #[.int .u8 a0_0, .string a0_1, .slice A0_2 l0_2.length c0_2, .slice A0_3 l0_3.length c0_3, .slice A0_4 l0_4.length c0_4]) (t := 26) ?hr ?_; (case hd => rfl); (case hg => rfl); (case hr => first | (go_simp; done) | (go_simp; rfl)); intro gb202 hg w152 hbox hb; have n0_ := Aside0.mk (below_step (by repeat (first | (with_reducible first | exact HB.out | apply below_alloc | apply pw_below_drewN | apply below_drew1) | exact HB.out)) hb); have n1_ := Aside0.mk (hbox); have n2_ := Aside0.mk ((by rw [hg]; exact (below_size (by repeat (first | (with_reducible first | exact HB.out | apply below_alloc | apply pw_below_drewN | apply below_drew1) | exact HB.out))) : w.heap.size ≤ gb202)); have n3_ := Aside0.mk ((by rw [hg]; exact (below_size (by repeat (first | (with_reducible first | exact HB.out | apply below_alloc | apply pw_below_drewN | apply below_drew1) | exact HB.out))) : w.heap.size ≤ gb202)); clear HB; have HB := n0_; have BK202 := n1_; have GW202 := n2_; have GE202 := n3_; clear n0_ n1_ n2_ n3_; clear hb hbox hg) | ((with_reducible refine gate_dst (N := 2) rfl ?_); refine box_event ?hg (N := 2) ?hd (cs := #[.int .u8 0, .string (⟨#[]⟩ : ByteArray), .slice none 0 0, .slice none 0 0, .slice none 0 0]) (t := 26) ?hr ?_; (case hd => rfl); (case hg => rfl); (case hr => first | (go_simp; done) | (go_simp; rfl)); intro gb203 hg w153 hbox hb; have n0_ := Aside0.mk (blk_below (g := gb202) (o := .cells #[.int .u8 a0_0, .string a0_1, .slice A0_2 l0_2.length c0_2, .slice A0_3 l0_3.length c0_3, .slice A0_4 l0_4.length c0_4] 26 (0, 0)) (by (with_reducible repeat (first | refine blk_drewN ?_ _ | refine blk_drew ?_ | refine blk_alloc ?_ _)); exact BK202.out) hb); have n1_ := Aside0.mk (below_step (by repeat (first | (with_reducible first | exact HB.out | apply below_alloc | apply pw_below_drewN | apply below_drew1 | refine below_set ?_ GE202.out) | exact HB.out)) hb); have n2_ := Aside0.mk (hbox); have n3_ := Aside0.mk ((by rw [hg]; exact (below_size (by repeat (first | (with_reducible first | exact HB.out | apply below_alloc | apply pw_below_drewN | apply below_drew1 | refine below_set ?_ GE202.out) | exact HB.out))) : w.heap.size ≤ gb203)); have n4_ := Aside0.mk ((by rw [hg]; exact (below_size (by repeat (first | (with_reducible first | exact HB.out | apply below_alloc | apply pw_below_drewN | apply below_drew1 | refine below_set ?_ GE202.out) | exact HB.out))) : w.heap.size ≤ gb203)); have n5_ := Aside0.mk ((by rw [hg]; exact Nat.ne_of_lt (blk_lt (g := gb202) (o := .cells #[.int .u8 a0_0, .string a0_1, .slice A0_2 l0_2.length c0_2, .slice A0_3 l0_3.length c0_3, .slice A0_4 l0_4.length c0_4] 26 (0, 0)) (by (with_reducible repeat (first | refine blk_drewN ?_ _ | refine blk_drew ?_ | refine blk_alloc ?_ _)); exact BK202.out)) : gb202 ≠ gb203)); have n6_ := Aside0.mk ((by rw [hg]; exact Nat.ne_of_gt (blk_lt (g := gb202) (o := .cells #[.int .u8 a0_0, .string a0_1, .slice A0_2 l0_2.length c0_2, .slice A0_3 l0_3.length c0_3, .slice A0_4 l0_4.length c0_4] 26 (0, 0)) (by (with_reducible repeat (first | refine blk_drewN ?_ _ | refine blk_drew ?_ | refine blk_alloc ?_ _)); exact BK202.out)) : gb203 ≠ gb202)); clear BK202; clear HB; have BK202 := n0_; have HB := n1_; have BK203 := n2_; have GW203 := n3_; have GE203 := n4_; have NB202_203 := n5_; have NB203_202 := n6_; clear n0_ n1_ n2_ n3_ n4_ n5_ n6_; clear hb hbox hg) | ((with_reducible refine gate_dst (N := 3) rfl ?_); refine box_event ?hg (N := 3) ?hd (cs := #[.int .u8 0, .string (⟨#[]⟩ : ByteArray), .slice none 0 0, .slice none 0 0, .slice none 0 0]) (t := 26) ?hr ?_; (case hd => rfl); (case hg => rfl); (case hr => first | (go_simp; done) | (go_simp; rfl)); intro gb204 hg w154 hbox hb; have n0_ := Aside0.mk (blk_below (g := gb202) (o := .cells #[.int .u8 a0_0, .string a0_1, .slice A0_2 l0_2.length c0_2, .slice A0_3 l0_3.length c0_3, .slice A0_4 l0_4.length c0_4] 26 (0, 0)) (by (with_reducible repeat (first | refine blk_drewN ?_ _ | refine blk_drew ?_ | refine blk_alloc ?_ _)); exact BK202.out) hb); have n1_ := Aside0.mk (blk_below (g := gb203) (o := .cells #[.int .u8 0, .string (⟨#[]⟩ : ByteArray), .slice none 0 0, .slice none 0 0, .slice none 0 0] 26 (0, 0)) (by (with_reducible repeat (first | refine blk_drewN ?_ _ | refine blk_drew ?_ | refine blk_alloc ?_ _)); exact BK203.out) hb); have n2_ := Aside0.mk (below_step (by repeat (first | (with_reducible first | exact HB.out | apply below_alloc | apply pw_below_drewN | apply below_drew1 | refine below_set ?_ GE202.out | refine below_set ?_ GE203.out) | exact HB.out)) hb); have n3_ := Aside0.mk (hbox); have n4_ := Aside0.mk ((by rw [hg]; exact (below_size (by repeat (first | (with_reducible first | exact HB.out | apply below_alloc | apply pw_below_drewN | apply below_drew1 | refine below_set ?_ GE202.out | refine below_set ?_ GE203.out) | exact HB.out))) : w.heap.size ≤ gb204)); have n5_ := Aside0.mk ((by rw [hg]; exact (below_size (by repeat (first | (with_reducible first | exact HB.out | apply below_alloc | apply pw_below_drewN | apply below_drew1 | refine below_set ?_ GE202.out | refine below_set ?_ GE203.out) | exact HB.out))) : w.heap.size ≤ gb204)); have n6_ := Aside0.mk ((by rw [hg]; exact Nat.ne_of_lt (blk_lt (g := gb202) (o := .cells #[.int .u8 a0_0, .string a0_1, .slice A0_2 l0_2.length c0_2, .slice A0_3 l0_3.length c0_3, .slice A0_4 l0_4.length c0_4] 26 (0, 0)) (by (with_reducible repeat (first | refine blk_drewN ?_ _ | refine blk_drew ?_ | refine blk_alloc ?_ _)); exact BK202.out)) : gb202 ≠ gb204)); have n7_ := Aside0.mk ((by rw [hg]; exact Nat.ne_of_gt (blk_lt (g := gb202) (o := .cells #[.int .u8 a0_0, .string a0_1, .slice A0_2 l0_2.length c0_2, .slice A0_3 l0_3.length c0_3, .slice A0_4 l0_4.length c0_4] 26 (0, 0)) (by (with_reducible repeat (first | refine blk_drewN ?_ _ | refine blk_drew ?_ | refine blk_alloc ?_ _)); exact BK202.out)) : gb204 ≠ gb202)); have n8_ := Aside0.mk ((by rw [hg]; exact Nat.ne_of_lt (blk_lt (g := gb203) (o := .cells #[.int .u8 0, .string (⟨#[]⟩ : ByteArray), .slice none 0 0, .slice none 0 0, .slice none 0 0] 26 (0, 0)) (by (with_reducible repeat (first | refine blk_drewN ?_ _ | refine blk_drew ?_ | refine blk_alloc ?_ _)); exact BK203.out)) : gb203 ≠ gb204)); have n9_ := Aside0.mk ((by rw [hg]; exact Nat.ne_of_gt (blk_lt (g := gb203) (o := .cells #[.int .u8 0, .string (⟨#[]⟩ : ByteArray), .slice none 0 0, .slice none 0 0, .slice none 0 0] 26 (0, 0)) (by (with_reducible repeat (first | refine blk_drewN ?_ _ | refine blk_drew ?_ | refine blk_alloc ?_ _)); exact BK203.out)) : gb204 ≠ gb203)); clear BK202; clear BK203; clear HB; have BK202 := n0_; have BK203 := n1_; have HB := n2_; have BK204 := n3_; have GW204 := n4_; have GE204 := n5_; have NB202_204 := n6_; have NB204_202 := n7_; have NB203_204 := n8_; have NB204_203 := n9_; clear n0_ n1_ n2_ n3_ n4_ n5_ n6_ n7_ n8_ n9_; clear hb hbox hg; have hnb155 := NB204_202.out; have hnc155 := NB202_204.out; have hnb156 := NB204_203.out; have hnc156 := NB203_204.out; have hcz157_0 : w154.cell? ⟨gb204, 0, none⟩ = some (.int .u8 0) := (blk_cell BK204.out 0).trans rfl; have hcz157_1 : w154.cell? ⟨gb204, 1, none⟩ = some (.string (⟨#[]⟩ : ByteArray)) := (blk_cell BK204.out 1).trans rfl; have hcz157_2 : w154.cell? ⟨gb204, 2, none⟩ = some (.slice none 0 0) := (blk_cell BK204.out 2).trans rfl; have hcz157_3 : w154.cell? ⟨gb204, 3, none⟩ = some (.slice none 0 0) := (blk_cell BK204.out 3).trans rfl; have hcz157_4 : w154.cell? ⟨gb204, 4, none⟩ = some (.slice none 0 0) := (blk_cell BK204.out 4).trans rfl; have hfz157_0 := blk_frozen BK204.out 0; have hfz157_1 := blk_frozen BK204.out 1; have hfz157_2 := blk_frozen BK204.out 2; have hfz157_3 := blk_frozen BK204.out 3; have hfz157_4 := blk_frozen BK204.out 4; have hnb158 := NB202_203.out; have hnc158 := NB203_202.out; have hcz159_0 : w154.cell? ⟨gb202, 0, none⟩ = some (.int .u8 a0_0) := (blk_cell BK202.out 0).trans rfl; have hcz159_1 : w154.cell? ⟨gb202, 1, none⟩ = some (.string a0_1) := (blk_cell BK202.out 1).trans rfl; have hcz159_2 : w154.cell? ⟨gb202, 2, none⟩ = some (.slice A0_2 l0_2.length c0_2) := (blk_cell BK202.out 2).trans rfl; have hcz159_3 : w154.cell? ⟨gb202, 3, none⟩ = some (.slice A0_3 l0_3.length c0_3) := (blk_cell BK202.out 3).trans rfl; have hcz159_4 : w154.cell? ⟨gb202, 4, none⟩ = some (.slice A0_4 l0_4.length c0_4) := (blk_cell BK202.out 4).trans rfl; have hfz159_0 := blk_frozen BK202.out 0; have hfz159_1 := blk_frozen BK202.out 1; have hfz159_2 := blk_frozen BK202.out 2; have hfz159_3 := blk_frozen BK202.out 3; have hfz159_4 := blk_frozen BK202.out 4; obtain ⟨i0160, hi0160, _, hsz160, _⟩ := info_parts info9; obtain ⟨hcut160, hA160, hC160⟩ := print_take_of (P := Try.prog) Value.string (⟨#[]⟩ : ByteArray) 22 9 .i64 Try.underlying22 hi0160 hsz160 A0_2 c0_2 l0_2 (ji2) (of_decide_eq_true (by first | (with_reducible assumption) | assumption)) (of_decide_eq_true (by first | (with_reducible assumption) | assumption)) HC0_2.out; have HR205 := Aside0.mk (Kd.C_of_reads (h1 := fun _ => rfl) (hA160 _ (Kd.reads_of_C HR0_2.out))); have HC205 := Aside0.mk hC160; clear hA160 hC160 hi0160 hsz160))
  go_loopg [7] k (fun kq v7 w' => ∃ (x7_1 : Int) (x205004_1 : List (S69)) (u205004 : Value), v7 = .int .i64 x7_1 ∧ Aside0 (tipstaffref09_Fit.l2 kq x7_1 a0_0 a0_1 l0_2 l0_3 l0_4 0 (⟨#[]⟩ : ByteArray) x205004_1 = some (r1, r2, r3, r4, r5)) ∧ Aside0 (kq ≤ k) ∧ Aside0 (Kd.R k69 69 w' w.heap.size (fun _ => True) u205004 x205004_1) ∧ Aside0 (w'.heap[gb202]? = some (.cells #[.int .u8 a0_0, .string a0_1, (.slice A0_2 l0_2.length c0_2), (.slice A0_3 l0_3.length c0_3), (.slice A0_4 l0_4.length c0_4)] 26 (0, 0))) ∧ Aside0 (w'.heap[gb203]? = some (.cells #[.int .u8 0, .string (⟨#[]⟩ : ByteArray), (.slice none 0 0), (.slice none 0 0), (.slice none 0 0)] 26 (0, 0))) ∧ Aside0 (w'.heap[gb204]? = some (.cells #[.int .u8 0, .string (⟨#[]⟩ : ByteArray), (.slice none 0 0), (.slice none 0 0), u205004] 26 (0, 0))) ∧ Aside0 (Below w.heap.size w w'))
  case atStart => exact ⟨(0), (([] : List (S69))), (.slice none 0 0), (by first | rfl | (simp; done) | (simp [*]; done)), H', ⟨Nat.le_refl _⟩, ⟨by first | exact Kd.R_nil _ _ _ _ _ | exact Kd.N_nil _ _ _ _ _ | exact Kd.V_nil _ _ _ _ _ | exact Kd.Q_nil _ _ _ _ _ | exact Kd.S_nil _ _ _ _ _⟩, ⟨by (with_reducible repeat (first | refine blk_drewN ?_ _ | refine blk_drew ?_ | refine blk_alloc ?_ _)); refine blk_far ?_ NB202_204.out _; (with_reducible repeat (first | refine blk_drewN ?_ _ | refine blk_drew ?_ | refine blk_alloc ?_ _)); refine blk_far ?_ NB202_204.out _; (with_reducible repeat (first | refine blk_drewN ?_ _ | refine blk_drew ?_ | refine blk_alloc ?_ _)); refine blk_far ?_ NB202_204.out _; (with_reducible repeat (first | refine blk_drewN ?_ _ | refine blk_drew ?_ | refine blk_alloc ?_ _)); refine blk_far ?_ NB202_204.out _; (with_reducible repeat (first | refine blk_drewN ?_ _ | refine blk_drew ?_ | refine blk_alloc ?_ _)); refine blk_far ?_ NB202_204.out _; (with_reducible repeat (first | refine blk_drewN ?_ _ | refine blk_drew ?_ | refine blk_alloc ?_ _)); exact BK202.out⟩, ⟨by (with_reducible repeat (first | refine blk_drewN ?_ _ | refine blk_drew ?_ | refine blk_alloc ?_ _)); refine blk_far ?_ NB203_204.out _; (with_reducible repeat (first | refine blk_drewN ?_ _ | refine blk_drew ?_ | refine blk_alloc ?_ _)); refine blk_far ?_ NB203_204.out _; (with_reducible repeat (first | refine blk_drewN ?_ _ | refine blk_drew ?_ | refine blk_alloc ?_ _)); refine blk_far ?_ NB203_204.out _; (with_reducible repeat (first | refine blk_drewN ?_ _ | refine blk_drew ?_ | refine blk_alloc ?_ _)); refine blk_far ?_ NB203_204.out _; (with_reducible repeat (first | refine blk_drewN ?_ _ | refine blk_drew ?_ | refine blk_alloc ?_ _)); refine blk_far ?_ NB203_204.out _; (with_reducible repeat (first | refine blk_drewN ?_ _ | refine blk_drew ?_ | refine blk_alloc ?_ _)); exact BK203.out⟩, ⟨by (with_reducible repeat (first | refine blk_drewN ?_ _ | refine blk_drew ?_ | refine blk_alloc ?_ _)); refine blk_put (cs := #[.int .u8 0, .string (⟨#[]⟩ : ByteArray), .slice none 0 0, .slice none 0 0, .slice none 0 0]) ?_ 4 _ rfl; (with_reducible repeat (first | refine blk_drewN ?_ _ | refine blk_drew ?_ | refine blk_alloc ?_ _)); refine blk_put (cs := #[.int .u8 0, .string (⟨#[]⟩ : ByteArray), .slice none 0 0, .slice none 0 0, .slice none 0 0]) ?_ 3 _ rfl; (with_reducible repeat (first | refine blk_drewN ?_ _ | refine blk_drew ?_ | refine blk_alloc ?_ _)); refine blk_put (cs := #[.int .u8 0, .string (⟨#[]⟩ : ByteArray), .slice none 0 0, .slice none 0 0, .slice none 0 0]) ?_ 2 _ rfl; (with_reducible repeat (first | refine blk_drewN ?_ _ | refine blk_drew ?_ | refine blk_alloc ?_ _)); refine blk_put (cs := #[.int .u8 0, .string (⟨#[]⟩ : ByteArray), .slice none 0 0, .slice none 0 0, .slice none 0 0]) ?_ 1 _ rfl; (with_reducible repeat (first | refine blk_drewN ?_ _ | refine blk_drew ?_ | refine blk_alloc ?_ _)); refine blk_put (cs := #[.int .u8 0, .string (⟨#[]⟩ : ByteArray), .slice none 0 0, .slice none 0 0, .slice none 0 0]) ?_ 0 _ rfl; (with_reducible repeat (first | refine blk_drewN ?_ _ | refine blk_drew ?_ | refine blk_alloc ?_ _)); exact BK204.out⟩, ⟨by repeat (first | (with_reducible first | exact HB.out | apply below_alloc | apply pw_below_drewN | apply below_drew1 | refine below_set ?_ GE202.out | refine below_set ?_ GE203.out | refine below_set ?_ GE204.out) | exact HB.out)⟩⟩
  case round =>
    clear H'
    try clear c1
    try clear p2
    try clear q2
    try clear hx2
    try clear c3
    try clear p6
    try clear c7
    try clear c8
    try clear c9
    try clear c10
    try clear c11
    try clear c12
    try clear c13
    try clear c14
    try clear c15
    try clear p21
    try clear q21
    try clear hx21
    try clear c36
    try clear c38
    try clear p64
    try clear c76
    try clear c77
    try clear c81
    try clear c83
    try clear c84
    try clear c89
    try clear c91
    try clear c91b0
    try clear c91b1
    try clear c95
    try clear c96
    try clear c98
    try clear c101
    try clear c101b0
    try clear c102
    try clear c102b0
    try clear c103
    try clear c103b0
    try clear c105
    try clear c106
    try clear c114
    try clear c114b0
    try clear c114b1
    try clear c115
    try clear c116
    try clear c118
    try clear c123
    try clear c124
    try clear c126
    try clear c133
    try clear c133b0
    try clear c133b1
    try clear c134
    try clear c135
    try clear c137
    try clear c142
    try clear c143
    try clear c145
    try clear c151
    try clear c151b0
    try clear c151b1
    try clear c155
    try clear c156
    try clear c158
    try clear hcz107_0
    try clear hcz107_1
    try clear hcz107_2
    try clear hcz107_3
    try clear hcz107_4
    try clear hcz117_0
    try clear hcz117_1
    try clear hcz117_2
    try clear hcz117_3
    try clear hcz117_4
    try clear hcz119_0
    try clear hcz119_1
    try clear hcz119_2
    try clear hcz119_3
    try clear hcz119_4
    try clear hcz122_0
    try clear hcz122_1
    try clear hcz122_2
    try clear hcz122_3
    try clear hcz122_4
    try clear hcz125_0
    try clear hcz125_1
    try clear hcz125_2
    try clear hcz125_3
    try clear hcz125_4
    try clear hcz127_0
    try clear hcz127_1
    try clear hcz127_2
    try clear hcz127_3
    try clear hcz127_4
    try clear hcz130_0
    try clear hcz130_1
    try clear hcz130_2
    try clear hcz130_3
    try clear hcz130_4
    try clear hcz131_0
    try clear hcz131_1
    try clear hcz131_2
    try clear hcz131_3
    try clear hcz131_4
    try clear hcz136_0
    try clear hcz136_1
    try clear hcz136_2
    try clear hcz136_3
    try clear hcz136_4
    try clear hcz138_0
    try clear hcz138_1
    try clear hcz138_2
    try clear hcz138_3
    try clear hcz138_4
    try clear hcz141_0
    try clear hcz141_1
    try clear hcz141_2
    try clear hcz141_3
    try clear hcz141_4
    try clear hcz144_0
    try clear hcz144_1
    try clear hcz144_2
    try clear hcz144_3
    try clear hcz144_4
    try clear hcz146_0
    try clear hcz146_1
    try clear hcz146_2
    try clear hcz146_3
    try clear hcz146_4
    try clear hcz149_0
    try clear hcz149_1
    try clear hcz149_2
    try clear hcz149_3
    try clear hcz149_4
    try clear hcz14_0
    try clear hcz14_1
    try clear hcz14_2
    try clear hcz14_3
    try clear hcz14_4
    try clear hcz150_0
    try clear hcz150_1
    try clear hcz150_2
    try clear hcz150_3
    try clear hcz150_4
    try clear hcz157_0
    try clear hcz157_1
    try clear hcz157_2
    try clear hcz157_3
    try clear hcz157_4
    try clear hcz159_0
    try clear hcz159_1
    try clear hcz159_2
    try clear hcz159_3
    try clear hcz159_4
    try clear hcz16_0
    try clear hcz16_1
    try clear hcz16_2
    try clear hcz16_3
    try clear hcz16_4
    try clear hcz18_0
    try clear hcz18_1
    try clear hcz18_2
    try clear hcz18_3
    try clear hcz18_4
    try clear hcz28_0
    try clear hcz28_1
    try clear hcz28_2
    try clear hcz28_3
    try clear hcz28_4
    try clear hcz30_0
    try clear hcz30_1
    try clear hcz30_2
    try clear hcz30_3
    try clear hcz30_4
    try clear hcz36_0
    try clear hcz36_1
    try clear hcz36_2
    try clear hcz36_3
    try clear hcz36_4
    try clear hcz38_0
    try clear hcz38_1
    try clear hcz38_2
    try clear hcz38_3
    try clear hcz38_4
    try clear hcz44_0
    try clear hcz44_1
    try clear hcz44_2
    try clear hcz44_3
    try clear hcz44_4
    try clear hcz46_0
    try clear hcz46_1
    try clear hcz46_2
    try clear hcz46_3
    try clear hcz46_4
    try clear hcz52_0
    try clear hcz52_1
    try clear hcz52_2
    try clear hcz52_3
    try clear hcz52_4
    try clear hcz54_0
    try clear hcz54_1
    try clear hcz54_2
    try clear hcz54_3
    try clear hcz54_4
    try clear hcz55_0
    try clear hcz55_1
    try clear hcz55_2
    try clear hcz55_3
    try clear hcz55_4
    try clear hcz62_0
    try clear hcz62_1
    try clear hcz62_2
    try clear hcz62_3
    try clear hcz62_4
    try clear hcz64_0
    try clear hcz64_1
    try clear hcz64_2
    try clear hcz64_3
    try clear hcz64_4
    try clear hcz78_0
    try clear hcz78_1
    try clear hcz78_2
    try clear hcz78_3
    try clear hcz78_4
    try clear hcz82_0
    try clear hcz82_1
    try clear hcz82_2
    try clear hcz82_3
    try clear hcz82_4
    try clear hcz85_0
    try clear hcz85_1
    try clear hcz85_2
    try clear hcz85_3
    try clear hcz85_4
    try clear hcz88_0
    try clear hcz88_1
    try clear hcz88_2
    try clear hcz88_3
    try clear hcz88_4
    try clear hcz90_0
    try clear hcz90_1
    try clear hcz90_2
    try clear hcz90_3
    try clear hcz90_4
    try clear hcz97_0
    try clear hcz97_1
    try clear hcz97_2
    try clear hcz97_3
    try clear hcz97_4
    try clear hcz99_0
    try clear hcz99_1
    try clear hcz99_2
    try clear hcz99_3
    try clear hcz99_4
    try clear hfz107_0
    try clear hfz107_1
    try clear hfz107_2
    try clear hfz107_3
    try clear hfz107_4
    try clear hfz117_0
    try clear hfz117_1
    try clear hfz117_2
    try clear hfz117_3
    try clear hfz117_4
    try clear hfz119_0
    try clear hfz119_1
    try clear hfz119_2
    try clear hfz119_3
    try clear hfz119_4
    try clear hfz122_0
    try clear hfz122_1
    try clear hfz122_2
    try clear hfz122_3
    try clear hfz122_4
    try clear hfz125_0
    try clear hfz125_1
    try clear hfz125_2
    try clear hfz125_3
    try clear hfz125_4
    try clear hfz127_0
    try clear hfz127_1
    try clear hfz127_2
    try clear hfz127_3
    try clear hfz127_4
    try clear hfz130_0
    try clear hfz130_1
    try clear hfz130_2
    try clear hfz130_3
    try clear hfz130_4
    try clear hfz131_0
    try clear hfz131_1
    try clear hfz131_2
    try clear hfz131_3
    try clear hfz131_4
    try clear hfz136_0
    try clear hfz136_1
    try clear hfz136_2
    try clear hfz136_3
    try clear hfz136_4
    try clear hfz138_0
    try clear hfz138_1
    try clear hfz138_2
    try clear hfz138_3
    try clear hfz138_4
    try clear hfz141_0
    try clear hfz141_1
    try clear hfz141_2
    try clear hfz141_3
    try clear hfz141_4
    try clear hfz144_0
    try clear hfz144_1
    try clear hfz144_2
    try clear hfz144_3
    try clear hfz144_4
    try clear hfz146_0
    try clear hfz146_1
    try clear hfz146_2
    try clear hfz146_3
    try clear hfz146_4
    try clear hfz149_0
    try clear hfz149_1
    try clear hfz149_2
    try clear hfz149_3
    try clear hfz149_4
    try clear hfz14_0
    try clear hfz14_1
    try clear hfz14_2
    try clear hfz14_3
    try clear hfz14_4
    try clear hfz150_0
    try clear hfz150_1
    try clear hfz150_2
    try clear hfz150_3
    try clear hfz150_4
    try clear hfz157_0
    try clear hfz157_1
    try clear hfz157_2
    try clear hfz157_3
    try clear hfz157_4
    try clear hfz159_0
    try clear hfz159_1
    try clear hfz159_2
    try clear hfz159_3
    try clear hfz159_4
    try clear hfz16_0
    try clear hfz16_1
    try clear hfz16_2
    try clear hfz16_3
    try clear hfz16_4
    try clear hfz18_0
    try clear hfz18_1
    try clear hfz18_2
    try clear hfz18_3
    try clear hfz18_4
    try clear hfz28_0
    try clear hfz28_1
    try clear hfz28_2
    try clear hfz28_3
    try clear hfz28_4
    try clear hfz30_0
    try clear hfz30_1
    try clear hfz30_2
    try clear hfz30_3
    try clear hfz30_4
    try clear hfz36_0
    try clear hfz36_1
    try clear hfz36_2
    try clear hfz36_3
    try clear hfz36_4
    try clear hfz38_0
    try clear hfz38_1
    try clear hfz38_2
    try clear hfz38_3
    try clear hfz38_4
    try clear hfz44_0
    try clear hfz44_1
    try clear hfz44_2
    try clear hfz44_3
    try clear hfz44_4
    try clear hfz46_0
    try clear hfz46_1
    try clear hfz46_2
    try clear hfz46_3
    try clear hfz46_4
    try clear hfz52_0
    try clear hfz52_1
    try clear hfz52_2
    try clear hfz52_3
    try clear hfz52_4
    try clear hfz54_0
    try clear hfz54_1
    try clear hfz54_2
    try clear hfz54_3
    try clear hfz54_4
    try clear hfz55_0
    try clear hfz55_1
    try clear hfz55_2
    try clear hfz55_3
    try clear hfz55_4
    try clear hfz62_0
    try clear hfz62_1
    try clear hfz62_2
    try clear hfz62_3
    try clear hfz62_4
    try clear hfz64_0
    try clear hfz64_1
    try clear hfz64_2
    try clear hfz64_3
    try clear hfz64_4
    try clear hfz78_0
    try clear hfz78_1
    try clear hfz78_2
    try clear hfz78_3
    try clear hfz78_4
    try clear hfz82_0
    try clear hfz82_1
    try clear hfz82_2
    try clear hfz82_3
    try clear hfz82_4
    try clear hfz85_0
    try clear hfz85_1
    try clear hfz85_2
    try clear hfz85_3
    try clear hfz85_4
    try clear hfz88_0
    try clear hfz88_1
    try clear hfz88_2
    try clear hfz88_3
    try clear hfz88_4
    try clear hfz90_0
    try clear hfz90_1
    try clear hfz90_2
    try clear hfz90_3
    try clear hfz90_4
    try clear hfz97_0
    try clear hfz97_1
    try clear hfz97_2
    try clear hfz97_3
    try clear hfz97_4
    try clear hfz99_0
    try clear hfz99_1
    try clear hfz99_2
    try clear hfz99_3
    try clear hfz99_4
    try clear hx213_0
    try clear hx218_0
    try clear hx218_1
    try clear p2
    try clear p213
    try clear p218
    try clear q213
    try clear q218
    obtain ⟨x7_1, x205004_1, u205004, rfl, HA, HK1, HO_205004, BK202, BK203, BK204, HB⟩ := hrel
    cases gk with
    | zero => exact absurd HA.out (by simp [tipstaffref09_Fit.l2])
    | succ k1 =>
      have H := HA.out
      clear HA
      simp only [tipstaffref09_Fit.l2] at H
      by_cases c161 : x7_1 < (l0_4.length : Int)
      · rw [if_pos c161] at H
        have c161b0 : decide (x7_1 < (l0_4.length : Int)) = true := decide_eq_true c161
        clear c161
        by_cases c162 : x7_1 < 8
        · rw [if_pos c162] at H
          have c162b0 : decide (x7_1 < 8) = true := decide_eq_true c162
          clear c162
          by_cases c163 : 0 ≤ x7_1
          · rw [if_pos c163] at H
            have c163b0 : decide (0 ≤ x7_1) = true := decide_eq_true c163
            clear c163
            replace H := Option.bind_eq_some_iff.mp H
            obtain ⟨t225, A1640, H⟩ := H
            replace H : (tipstaffref09_Fit.l2 k1 (wrap64 (x7_1 + 1)) a0_0 a0_1 l0_2 l0_3 l0_4 0 (⟨#[]⟩ : ByteArray) t225) = some (r1, r2, r3, r4, r5) := H
            have A164 := Aside0.mk A1640
            clear A1640
            have H' := Aside0.mk H
            clear H
            have hnb165 := NB202_203.out
            have hnc165 := NB203_202.out
            have hnb166 := NB202_204.out
            have hnc166 := NB204_202.out
            have hcz167_0 : wr.cell? ⟨gb202, 0, none⟩ = some (.int .u8 a0_0) := (blk_cell BK202.out 0).trans rfl
            have hcz167_1 : wr.cell? ⟨gb202, 1, none⟩ = some (.string a0_1) := (blk_cell BK202.out 1).trans rfl
            have hcz167_2 : wr.cell? ⟨gb202, 2, none⟩ = some (.slice A0_2 l0_2.length c0_2) := (blk_cell BK202.out 2).trans rfl
            have hcz167_3 : wr.cell? ⟨gb202, 3, none⟩ = some (.slice A0_3 l0_3.length c0_3) := (blk_cell BK202.out 3).trans rfl
            have hcz167_4 : wr.cell? ⟨gb202, 4, none⟩ = some (.slice A0_4 l0_4.length c0_4) := (blk_cell BK202.out 4).trans rfl
            have hfz167_0 := blk_frozen BK202.out 0
            have hfz167_1 := blk_frozen BK202.out 1
            have hfz167_2 := blk_frozen BK202.out 2
            have hfz167_3 := blk_frozen BK202.out 3
            have hfz167_4 := blk_frozen BK202.out 4
            try go_wp2
            have n0_ := Aside0.mk (Kd.R_drew HO_205004.out)
            have n1_ := Aside0.mk (blk_drew BK202.out)
            have n2_ := Aside0.mk (blk_drew BK203.out)
            have n3_ := Aside0.mk (blk_drew BK204.out)
            have n4_ := Aside0.mk (below_drew1 HB.out)
            clear HO_205004
            clear BK202
            clear BK203
            clear BK204
            clear HB
            have HO_205004 := n0_
            have BK202 := n1_
            have BK203 := n2_
            have BK204 := n3_
            have HB := n4_
            clear n0_ n1_ n2_ n3_ n4_
            have p224 : 0 ≤ (x7_1 : Int) := of_decide_eq_true (by first | (with_reducible assumption) | assumption)
            have q224 : x7_1 < (l0_4.length : Int) := of_decide_eq_true (by first | (with_reducible assumption) | assumption)
            obtain ⟨ad224, e224, hx224_0, hx224_1⟩ := at_T69 HR0_4.out x7_1 p224 q224
            have hw224_1 := hx224_1
            have hw224_0 := hx224_0
            cases e224
            replace hx224_0 := (HB.out.cell (World.block_lt_of_cell? w _ hx224_0)).trans hx224_0
            replace hx224_1 := (HB.out.cell (World.block_lt_of_cell? w _ hx224_1)).trans hx224_1
            replace p224 := eq_true p224
            replace q224 := eq_true q224
            obtain ⟨Ao169, co169, eo169⟩ := Kd.R_slice HO_205004.out
            (first | subst eo169 | (injection eo169 with f1_ f2_ f3_; have f4_ := f1_.symm; have f5_ := f3_.symm; clear f1_ f2_ f3_; subst f4_; subst f5_))
            refine start_ (n := 10) (S := fun w' => w'.cell? ⟨gb204, 0, none⟩ = some (.int .u8 0) ∧ w'.cell? ⟨gb204, 1, none⟩ = some (.string (⟨#[]⟩ : ByteArray)) ∧ w'.cell? ⟨gb204, 2, none⟩ = some (.slice none 0 0) ∧ w'.cell? ⟨gb204, 3, none⟩ = some (.slice none 0 0) ∧ w'.cell? ⟨gb204, 4, none⟩ = some (.slice Ao169 x205004_1.length co169) ∧ w'.cell? ⟨gb202, 0, none⟩ = some (.int .u8 a0_0) ∧ w'.cell? ⟨gb202, 1, none⟩ = some (.string a0_1) ∧ w'.cell? ⟨gb202, 2, none⟩ = some (.slice A0_2 l0_2.length c0_2) ∧ w'.cell? ⟨gb202, 3, none⟩ = some (.slice A0_3 l0_3.length c0_3) ∧ w'.cell? ⟨gb202, 4, none⟩ = some (.slice (some ad224) l0_4.length c0_4) ∧ w'.cell? (ad224.add ((x7_1).toNat * 2)) = some (.string ((rd_T69 l0_4 x7_1).f0)) ∧ w'.cell? ⟨(ad224.add ((x7_1).toNat * 2)).block, (ad224.add ((x7_1).toNat * 2)).off + 1, none⟩ = some (.int .i64 ((rd_T69 l0_4 x7_1).f1))) (ds := [9]) #[false, false, false, false, false, false, false, false, false, false] (by kernel_rfl) rfl rfl ⟨(blk_cell BK204.out 0).trans rfl, (blk_cell BK204.out 1).trans rfl, (blk_cell BK204.out 2).trans rfl, (blk_cell BK204.out 3).trans rfl, (blk_cell BK204.out 4).trans rfl, (blk_cell BK202.out 0).trans rfl, (blk_cell BK202.out 1).trans rfl, (blk_cell BK202.out 2).trans rfl, (blk_cell BK202.out 3).trans rfl, (blk_cell BK202.out 4).trans rfl, ((HB.out.cell (World.block_lt_of_cell? w _ hw224_0)).trans hw224_0), ((HB.out.cell (World.block_lt_of_cell? w _ hw224_1)).trans hw224_1)⟩ (fun hHeld => ?_); refine with_tabW tipstaffref09_Fit.tab25 tipstaffref09_Fit.bits25 (fun HT_ HW_ => ?_)
            generalize wr.drew = w168 at HO_205004 BK202 BK203 BK204 HB hx224_0 hx224_1 hHeld ⊢
            refine pure_ (i := 0) (N := some 89) (v := ?_) (a' := ?_) #[true, false, false, false, false, false, false, false, false, false] rfl rfl (any_of HT_.out (by kernel_rfl)) (fun _ _ _ h => h) (Or.inl ⟨by rfl, ?_⟩) ?_ ?_
            rotate_left
            · intro w'
              go_simp
              with_reducible rfl
            rotate_left
            · simp only [Act.put, List.setIfInBounds_toArray, List.set_cons_zero, List.set_cons_succ, i64_w, i32_w]
              rfl
            refine pure_ (i := 2) (N := some 91) (v := ?_) (a' := ?_) #[true, false, true, false, false, false, false, false, false, false] rfl rfl (any_of HT_.out (by kernel_rfl)) (fun _ _ _ h => h) (Or.inl ⟨by rfl, ?_⟩) ?_ ?_
            rotate_left
            · intro w'
              go_simp
              with_reducible rfl
            rotate_left
            · simp only [Act.put, List.setIfInBounds_toArray, List.set_cons_zero, List.set_cons_succ, i64_w, i32_w]
              rfl
            refine pure_ (i := 4) (N := some 93) (v := ?_) (a' := ?_) #[true, false, true, false, true, false, false, false, false, false] rfl rfl (any_of HT_.out (by kernel_rfl)) (fun _ _ _ h => h) (Or.inl ⟨by rfl, ?_⟩) ?_ ?_
            rotate_left
            · intro w'
              go_simp
              with_reducible rfl
            rotate_left
            · simp only [Act.put, List.setIfInBounds_toArray, List.set_cons_zero, List.set_cons_succ, i64_w, i32_w]
              rfl
            refine take_ (i := 1) (N := some 90) (v := ?_) (a' := ?_) #[true, true, true, false, true, false, false, false, false, false] rfl rfl (take_ofW HT_.out HW_.out (by kernel_rfl)) (fun _ _ _ h => h) (Or.inl ⟨by rfl, ?_⟩) hHeld ?_ ?_
            rotate_left
            · rintro w' ⟨s0, s1, s2, s3, s4, s5, s6, s7, s8, s9, s10, s11⟩
              go_simp
              with_reducible rfl
            rotate_left
            · simp only [Act.put, List.setIfInBounds_toArray, List.set_cons_zero, List.set_cons_succ, i64_w, i32_w]
              rfl
            refine take_ (i := 3) (N := some 92) (v := ?_) (a' := ?_) #[true, true, true, true, true, false, false, false, false, false] rfl rfl (take_ofW HT_.out HW_.out (by kernel_rfl)) (fun _ _ _ h => h) (Or.inl ⟨by rfl, ?_⟩) hHeld ?_ ?_
            rotate_left
            · rintro w' ⟨s0, s1, s2, s3, s4, s5, s6, s7, s8, s9, s10, s11⟩
              go_simp
              with_reducible rfl
            rotate_left
            · simp only [Act.put, List.setIfInBounds_toArray, List.set_cons_zero, List.set_cons_succ, i64_w, i32_w]
              rfl
            refine pure_ (i := 5) (N := some 94) (v := ?_) (a' := ?_) #[true, true, true, true, true, true, false, false, false, false] rfl rfl (any_of HT_.out (by kernel_rfl)) (fun _ _ _ h => h) (Or.inl ⟨by rfl, ?_⟩) ?_ ?_
            rotate_left
            · intro w'
              go_simp
              with_reducible rfl
            rotate_left
            · simp only [Act.put, List.setIfInBounds_toArray, List.set_cons_zero, List.set_cons_succ, i64_w, i32_w]
              rfl
            refine take_ (i := 6) (N := some 95) (v := ?_) (a' := ?_) #[true, true, true, true, true, true, true, false, false, false] rfl rfl (take_ofW HT_.out HW_.out (by kernel_rfl)) (fun _ _ _ h => h) (Or.inl ⟨by rfl, ?_⟩) hHeld ?_ ?_
            rotate_left
            · rintro w' ⟨s0, s1, s2, s3, s4, s5, s6, s7, s8, s9, s10, s11⟩
              go_simp
              with_reducible rfl
            rotate_left
            · simp only [Act.put, List.setIfInBounds_toArray, List.set_cons_zero, List.set_cons_succ, i64_w, i32_w]
              rfl
            refine one_ (i := 7) (N := some 96) #[true, true, true, true, true, true, true, true, false, false] rfl rfl (one_of HT_.out (by kernel_rfl)) (by decide) (fun K hK => ?_)
            refine goes_ Try.func37 (by kernel_rfl) rfl #[.slice Ao169 x205004_1.length co169, .agg #[.string ((rd_T69 l0_4 x7_1).f0), .int .i64 ((rd_T69 l0_4 x7_1).f1)]] (by rfl) rfl rfl (by (try simp only [List.map_toArray, List.map_cons, List.map_nil]); first | done | rfl | (simp only [List.length_drop, List.length_take]; rfl)) ?_
            with_reducible refine (tipstaffref09_PutMark.calls k1 _ _ x205004_1 ((rd_T69 l0_4 x7_1).f0) ((rd_T69 l0_4 x7_1).f1) t225 _ ?side1 ?side2 A164.out).mono ?_
            (case side1 => repeat (first | exact (Kd.R_reads' HO_205004.out).2.2 | (with_reducible refine Kd.C_alloc ?_ _) | (with_reducible refine Kd.C_drewN ?_ _) | (with_reducible refine Kd.C_drew ?_)))
            (case side2 => exact (Kd.R_reads' HO_205004.out).2.1)
            rintro e w170 ⟨v226, rfl, ho0, hb⟩
            refine ⟨_, rfl, ?_⟩
            have n0_ := Aside0.mk (Kd.R_elder' (by (with_reducible repeat (first | apply Kd.R_alloc | apply Kd.R_drewN | apply Kd.R_drew)); exact HO_205004.out) (Kd.R_base ho0) hb)
            have n1_ := Aside0.mk (Kd.R_lower (Kd.R_new' ho0 (Kd.R_lt (by (with_reducible repeat (first | apply Kd.R_alloc | apply Kd.R_drewN | apply Kd.R_drew)); exact HO_205004.out))) (below_size (by repeat (first | (with_reducible first | exact HB.out | apply below_alloc | apply pw_below_drewN | apply below_drew1 | refine below_set ?_ GE202.out | refine below_set ?_ GE203.out | refine below_set ?_ GE204.out) | exact HB.out))))
            have n2_ := Aside0.mk (blk_below (g := gb202) (o := .cells #[.int .u8 a0_0, .string a0_1, .slice A0_2 l0_2.length c0_2, .slice A0_3 l0_3.length c0_3, .slice (some ad224) l0_4.length c0_4] 26 (0, 0)) (by (with_reducible repeat (first | refine blk_drewN ?_ _ | refine blk_drew ?_ | refine blk_alloc ?_ _)); exact BK202.out) hb)
            have n3_ := Aside0.mk (blk_below (g := gb203) (o := .cells #[.int .u8 0, .string (⟨#[]⟩ : ByteArray), .slice none 0 0, .slice none 0 0, .slice none 0 0] 26 (0, 0)) (by (with_reducible repeat (first | refine blk_drewN ?_ _ | refine blk_drew ?_ | refine blk_alloc ?_ _)); exact BK203.out) hb)
            have n4_ := Aside0.mk (blk_below (g := gb204) (o := .cells #[.int .u8 0, .string (⟨#[]⟩ : ByteArray), .slice none 0 0, .slice none 0 0, .slice Ao169 x205004_1.length co169] 26 (0, 0)) (by (with_reducible repeat (first | refine blk_drewN ?_ _ | refine blk_drew ?_ | refine blk_alloc ?_ _)); exact BK204.out) hb)
            have n5_ := Aside0.mk (below_step (by repeat (first | (with_reducible first | exact HB.out | apply below_alloc | apply pw_below_drewN | apply below_drew1 | refine below_set ?_ GE202.out | refine below_set ?_ GE203.out | refine below_set ?_ GE204.out) | exact HB.out)) hb)
            clear HO_205004
            clear BK202
            clear BK203
            clear BK204
            clear HB
            have HO_205004 := n0_
            have HO227 := n1_
            have BK202 := n2_
            have BK203 := n3_
            have BK204 := n4_
            have HB := n5_
            clear n0_ n1_ n2_ n3_ n4_ n5_
            (try clear hb)
            (try clear hb2)
            (try clear hk)
            (try clear hi)
            (try clear ho0)
            obtain ⟨Ao171, co171, eo171⟩ := Kd.R_slice HO227.out
            (first | subst eo171 | (injection eo171 with f1_ f2_ f3_; have f4_ := f1_.symm; have f5_ := f3_.symm; clear f1_ f2_ f3_; subst f4_; subst f5_))
            refine hK.out _ _ ⟨(blk_cell BK204.out 0).trans rfl, (blk_cell BK204.out 1).trans rfl, (blk_cell BK204.out 2).trans rfl, (blk_cell BK204.out 3).trans rfl, (blk_cell BK204.out 4).trans rfl, (blk_cell BK202.out 0).trans rfl, (blk_cell BK202.out 1).trans rfl, (blk_cell BK202.out 2).trans rfl, (blk_cell BK202.out 3).trans rfl, (blk_cell BK202.out 4).trans rfl, ((HB.out.cell (World.block_lt_of_cell? w _ hw224_0)).trans hw224_0), ((HB.out.cell (World.block_lt_of_cell? w _ hw224_1)).trans hw224_1)⟩ (fun hHeld => ?_)
            clear hK K
            refine norm_ (a' := ?_) ?_ ?_
            rotate_left
            · show Act.put _ (some 96) _ = _
              simp only [Act.put, List.setIfInBounds_toArray, List.set_cons_zero, List.set_cons_succ, i64_w, i32_w]
              rfl
            refine pure_ (i := 8) (N := some 97) (v := ?_) (a' := ?_) #[true, true, true, true, true, true, true, true, true, false] rfl rfl (any_of HT_.out (by kernel_rfl)) (fun _ _ _ h => h) (Or.inl ⟨by rfl, ?_⟩) ?_ ?_
            rotate_left
            · intro w'
              go_simp
              with_reducible rfl
            rotate_left
            · simp only [Act.put, List.setIfInBounds_toArray, List.set_cons_zero, List.set_cons_succ, i64_w, i32_w]
              rfl
            refine last_ (i := 9) (N := none) #[true, true, true, true, true, true, true, true, true, true] rfl rfl (one_of HT_.out (by kernel_rfl)) (by decide) (fun K hK => ?_)
            have hs172 : w170.cell? ⟨gb204, 4, none⟩ = some (.slice Ao169 x205004_1.length co169) := (blk_cell BK204.out 4).trans rfl
            have hfs172 := blk_frozen BK204.out 4
            have hns172_0 := NB202_204.out
            have hns172_1 := NB203_204.out
            have hms172_0 := NB204_202.out
            have hms172_1 := NB204_203.out
            refine skip_ (w1 := ?_) (by rfl) rfl ?_ ?_
            rotate_left
            · go_simp
              rfl
            refine hK.out _ _ ?_
            clear hK K
            refine done_ (done_of HT_.out (by kernel_rfl)) ?_
            try go_wp2
            go_roundg k1
            case measure => have := HK1.out; omega
            case rel => exact ⟨(wrap64 (x7_1 + 1)), (t225), (.slice Ao171 t225.length co171), (by first | rfl | (simp; done) | (simp [*]; done)), H', ⟨by have := HK1.out; omega⟩, ⟨by (with_reducible repeat (first | apply Kd.R_alloc | apply Kd.R_drewN | apply Kd.R_drew)); exact Kd.R_mono (Kd.R_far (p := ⟨gb204, 4, none⟩) (Kd.R_types HO227.out BK204.out (by decide)) (fun _ hk => hk.2) (.slice Ao171 t225.length co171)) (fun _ hk => trivial)⟩, ⟨by (with_reducible repeat (first | refine blk_drewN ?_ _ | refine blk_drew ?_ | refine blk_alloc ?_ _)); refine blk_far ?_ NB202_204.out _; (with_reducible repeat (first | refine blk_drewN ?_ _ | refine blk_drew ?_ | refine blk_alloc ?_ _)); exact BK202.out⟩, ⟨by (with_reducible repeat (first | refine blk_drewN ?_ _ | refine blk_drew ?_ | refine blk_alloc ?_ _)); refine blk_far ?_ NB203_204.out _; (with_reducible repeat (first | refine blk_drewN ?_ _ | refine blk_drew ?_ | refine blk_alloc ?_ _)); exact BK203.out⟩, ⟨by (with_reducible repeat (first | refine blk_drewN ?_ _ | refine blk_drew ?_ | refine blk_alloc ?_ _)); refine blk_put (cs := #[.int .u8 0, .string (⟨#[]⟩ : ByteArray), .slice none 0 0, .slice none 0 0, .slice Ao169 x205004_1.length co169]) ?_ 4 _ rfl; (with_reducible repeat (first | refine blk_drewN ?_ _ | refine blk_drew ?_ | refine blk_alloc ?_ _)); exact BK204.out⟩, ⟨by repeat (first | (with_reducible first | exact HB.out | apply below_alloc | apply pw_below_drewN | apply below_drew1 | refine below_set ?_ GE202.out | refine below_set ?_ GE203.out | refine below_set ?_ GE204.out) | exact HB.out)⟩⟩
          · rw [if_neg c163] at H
            exact absurd H (by simp)
        · rw [if_neg c162] at H
          have c162b0 : decide (x7_1 < 8) = false := decide_eq_false c162
          clear c162
          replace H := Option.bind_eq_some_iff.mp H
          obtain ⟨t228, A1730, H⟩ := H
          replace H : (if t228 = 0 then (some (0, (⟨#[]⟩ : ByteArray), ([] : List ByteArray), ([] : List (S66)), ([] : List (S69)))) else (some (5, (⟨#[]⟩ : ByteArray), ([] : List ByteArray), ([] : List (S66)), x205004_1))) = some (r1, r2, r3, r4, r5) := H
          have A173 := Aside0.mk A1730
          clear A1730
          by_cases c174 : t228 = 0
          · rw [if_pos c174] at H
            have c174b0 : (t228 == 0) = true := beq_iff_eq.mpr c174
            have c174b1 : (t228 != 0) = false := bne_eq_false_iff_eq.mpr c174
            clear c174
            simp only [Option.some.injEq, Prod.mk.injEq] at H
            obtain ⟨rfl, rfl, rfl, rfl, rfl⟩ := H
            have hnb175 := NB202_203.out
            have hnc175 := NB203_202.out
            have hnb176 := NB202_204.out
            have hnc176 := NB204_202.out
            have hcz177_0 : wr.cell? ⟨gb202, 0, none⟩ = some (.int .u8 a0_0) := (blk_cell BK202.out 0).trans rfl
            have hcz177_1 : wr.cell? ⟨gb202, 1, none⟩ = some (.string a0_1) := (blk_cell BK202.out 1).trans rfl
            have hcz177_2 : wr.cell? ⟨gb202, 2, none⟩ = some (.slice A0_2 l0_2.length c0_2) := (blk_cell BK202.out 2).trans rfl
            have hcz177_3 : wr.cell? ⟨gb202, 3, none⟩ = some (.slice A0_3 l0_3.length c0_3) := (blk_cell BK202.out 3).trans rfl
            have hcz177_4 : wr.cell? ⟨gb202, 4, none⟩ = some (.slice A0_4 l0_4.length c0_4) := (blk_cell BK202.out 4).trans rfl
            have hfz177_0 := blk_frozen BK202.out 0
            have hfz177_1 := blk_frozen BK202.out 1
            have hfz177_2 := blk_frozen BK202.out 2
            have hfz177_3 := blk_frozen BK202.out 3
            have hfz177_4 := blk_frozen BK202.out 4
            have hnb178 := NB204_203.out
            have hnc178 := NB203_204.out
            have hcz179_0 : wr.cell? ⟨gb204, 0, none⟩ = some (.int .u8 0) := (blk_cell BK204.out 0).trans rfl
            have hcz179_1 : wr.cell? ⟨gb204, 1, none⟩ = some (.string (⟨#[]⟩ : ByteArray)) := (blk_cell BK204.out 1).trans rfl
            have hcz179_2 : wr.cell? ⟨gb204, 2, none⟩ = some (.slice none 0 0) := (blk_cell BK204.out 2).trans rfl
            have hcz179_3 : wr.cell? ⟨gb204, 3, none⟩ = some (.slice none 0 0) := (blk_cell BK204.out 3).trans rfl
            have hcz179_4 : wr.cell? ⟨gb204, 4, none⟩ = some (u205004) := (blk_cell BK204.out 4).trans rfl
            have hfz179_0 := blk_frozen BK204.out 0
            have hfz179_1 := blk_frozen BK204.out 1
            have hfz179_2 := blk_frozen BK204.out 2
            have hfz179_3 := blk_frozen BK204.out 3
            have hfz179_4 := blk_frozen BK204.out 4
            obtain ⟨Ao180, co180, eo180⟩ := Kd.R_slice HO_205004.out
            subst eo180
            go_wp2_with (first | ((with_reducible refine gate_callee (f := 38) rfl ?_); refine goesL_ (some 100) rfl rfl Try.func38 (by kernel_rfl) rfl #[.agg #[.int .u8 5, .string (⟨#[]⟩ : ByteArray), .slice none 0 0, .slice none 0 0, .slice Ao180 x205004_1.length co180]] rfl (by (try simp only [List.map_toArray, List.map_cons, List.map_nil]); first | done | rfl | (simp only [List.length_drop, List.length_take]; rfl)) ?_; (refine (tipstaffref09_Size.calls k1 5 (⟨#[]⟩ : ByteArray) _ _ ([] : List ByteArray) _ _ ([] : List (S66)) _ _ x205004_1 t228 _ ?side1 ?side2 ?side3 ?side4 ?side5 ?side6 A173.out).mono ?_); (case side1 => exact Kd.C_nil _ _); (case side2 => exact Nat.le_refl _); (case side3 => exact Kd.C_nil _ _); (case side4 => exact Nat.le_refl _); (case side5 => refine (Kd.R_reads' (e := 69) (base := w.heap.size) (ok := fun k_ => True) (n := x205004_1.length) (c := co180) ?_).2.2; exact (by (with_reducible repeat (first | apply Kd.R_alloc | apply Kd.R_drewN | apply Kd.R_drew)); exact (Kd.R_mono (Kd.R_far (p := ⟨gb204, 0, none⟩) (Kd.R_types HO_205004.out BK204.out (by decide)) (fun _ hk => hk.2) (.int .u8 5)) (fun _ h_ => h_.1)))); (case side6 => exact (Kd.R_reads' HO_205004.out).2.1); rintro e w181 ⟨rfl, hb⟩; refine ⟨_, rfl, ?_⟩; have n0_ := Aside0.mk (Kd.R_below (by (with_reducible repeat (first | apply Kd.R_alloc | apply Kd.R_drewN | apply Kd.R_drew)); exact (Kd.R_mono (Kd.R_far (p := ⟨gb204, 0, none⟩) (Kd.R_types HO_205004.out BK204.out (by decide)) (fun _ hk => hk.2) (.int .u8 5)) (fun _ h_ => h_.1))) hb); have n1_ := Aside0.mk (blk_below (g := gb202) (o := .cells #[.int .u8 a0_0, .string a0_1, .slice A0_2 l0_2.length c0_2, .slice A0_3 l0_3.length c0_3, .slice A0_4 l0_4.length c0_4] 26 (0, 0)) (by (with_reducible repeat (first | refine blk_drewN ?_ _ | refine blk_drew ?_ | refine blk_alloc ?_ _)); refine blk_far ?_ NB202_204.out _; (with_reducible repeat (first | refine blk_drewN ?_ _ | refine blk_drew ?_ | refine blk_alloc ?_ _)); exact BK202.out) hb); have n2_ := Aside0.mk (blk_below (g := gb203) (o := .cells #[.int .u8 0, .string (⟨#[]⟩ : ByteArray), .slice none 0 0, .slice none 0 0, .slice none 0 0] 26 (0, 0)) (by (with_reducible repeat (first | refine blk_drewN ?_ _ | refine blk_drew ?_ | refine blk_alloc ?_ _)); refine blk_far ?_ NB203_204.out _; (with_reducible repeat (first | refine blk_drewN ?_ _ | refine blk_drew ?_ | refine blk_alloc ?_ _)); exact BK203.out) hb); have n3_ := Aside0.mk (blk_below (g := gb204) (o := .cells #[.int .u8 5, .string (⟨#[]⟩ : ByteArray), .slice none 0 0, .slice none 0 0, .slice Ao180 x205004_1.length co180] 26 (0, 0)) (by (with_reducible repeat (first | refine blk_drewN ?_ _ | refine blk_drew ?_ | refine blk_alloc ?_ _)); refine blk_put (cs := #[.int .u8 0, .string (⟨#[]⟩ : ByteArray), .slice none 0 0, .slice none 0 0, .slice Ao180 x205004_1.length co180]) ?_ 0 _ rfl; (with_reducible repeat (first | refine blk_drewN ?_ _ | refine blk_drew ?_ | refine blk_alloc ?_ _)); exact BK204.out) hb); have n4_ := Aside0.mk (below_step (by repeat (first | (with_reducible first | exact HB.out | apply below_alloc | apply pw_below_drewN | apply below_drew1 | refine below_set ?_ GE202.out | refine below_set ?_ GE203.out | refine below_set ?_ GE204.out) | exact HB.out)) hb); clear HO_205004; clear BK202; clear BK203; clear BK204; clear HB; have HO_205004 := n0_; have BK202 := n1_; have BK203 := n2_; have BK204 := n3_; have HB := n4_; clear n0_ n1_ n2_ n3_ n4_; (try clear hb); (try clear hb2); (try clear hk); (try clear hi); have hcz182_0 : w181.cell? ⟨gb203, 0, none⟩ = some (.int .u8 0) := (blk_cell BK203.out 0).trans rfl; have hcz182_1 : w181.cell? ⟨gb203, 1, none⟩ = some (.string (⟨#[]⟩ : ByteArray)) := (blk_cell BK203.out 1).trans rfl; have hcz182_2 : w181.cell? ⟨gb203, 2, none⟩ = some (.slice none 0 0) := (blk_cell BK203.out 2).trans rfl; have hcz182_3 : w181.cell? ⟨gb203, 3, none⟩ = some (.slice none 0 0) := (blk_cell BK203.out 3).trans rfl; have hcz182_4 : w181.cell? ⟨gb203, 4, none⟩ = some (.slice none 0 0) := (blk_cell BK203.out 4).trans rfl; have hfz182_0 := blk_frozen BK203.out 0; have hfz182_1 := blk_frozen BK203.out 1; have hfz182_2 := blk_frozen BK203.out 2; have hfz182_3 := blk_frozen BK203.out 3; have hfz182_4 := blk_frozen BK203.out 4))
            refine bodyPost_ret (results_cell_row rfl _ _ gb203 26 #[.int .u8 0, .string (⟨#[]⟩ : ByteArray), .slice none 0 0, .slice none 0 0, .slice none 0 0] (0, 0) _ rfl (by (with_reducible repeat (first | refine blk_drewN ?_ _ | refine blk_drew ?_ | refine blk_alloc ?_ _)); refine blk_put (cs := #[.int .u8 0, .string (⟨#[]⟩ : ByteArray), .slice none 0 0, .slice none 0 0, .slice none 0 0]) ?_ 4 _ rfl; (with_reducible repeat (first | refine blk_drewN ?_ _ | refine blk_drew ?_ | refine blk_alloc ?_ _)); refine blk_put (cs := #[.int .u8 0, .string (⟨#[]⟩ : ByteArray), .slice none 0 0, .slice none 0 0, .slice none 0 0]) ?_ 3 _ rfl; (with_reducible repeat (first | refine blk_drewN ?_ _ | refine blk_drew ?_ | refine blk_alloc ?_ _)); refine blk_put (cs := #[.int .u8 0, .string (⟨#[]⟩ : ByteArray), .slice none 0 0, .slice none 0 0, .slice none 0 0]) ?_ 2 _ rfl; (with_reducible repeat (first | refine blk_drewN ?_ _ | refine blk_drew ?_ | refine blk_alloc ?_ _)); refine blk_put (cs := #[.int .u8 0, .string (⟨#[]⟩ : ByteArray), .slice none 0 0, .slice none 0 0, .slice none 0 0]) ?_ 1 _ rfl; (with_reducible repeat (first | refine blk_drewN ?_ _ | refine blk_drew ?_ | refine blk_alloc ?_ _)); refine blk_put (cs := #[.int .u8 0, .string (⟨#[]⟩ : ByteArray), .slice none 0 0, .slice none 0 0, .slice none 0 0]) ?_ 0 _ rfl; (with_reducible repeat (first | refine blk_drewN ?_ _ | refine blk_drew ?_ | refine blk_alloc ?_ _)); exact BK203.out) Try.underlying26 rfl (by kernel_rfl)) rfl ?_
            exact ⟨_, _, _, by first | rfl | (simp [errW_none, errW_some] <;> rfl) | (simp only [← hji2]; first | rfl | (simp [errW_none, errW_some] <;> rfl)) | (simp [*, errW_none, errW_some] <;> rfl), by first | exact Kd.R_nil _ _ _ _ _ | exact Kd.N_nil _ _ _ _ _ | exact Kd.V_nil _ _ _ _ _ | exact Kd.Q_nil _ _ _ _ _ | exact Kd.S_nil _ _ _ _ _, by first | exact Kd.R_nil _ _ _ _ _ | exact Kd.N_nil _ _ _ _ _ | exact Kd.V_nil _ _ _ _ _ | exact Kd.Q_nil _ _ _ _ _ | exact Kd.S_nil _ _ _ _ _, by first | exact Kd.R_nil _ _ _ _ _ | exact Kd.N_nil _ _ _ _ _ | exact Kd.V_nil _ _ _ _ _ | exact Kd.Q_nil _ _ _ _ _ | exact Kd.S_nil _ _ _ _ _, by repeat (first | (with_reducible first | exact HB.out | apply below_alloc | apply pw_below_drewN | apply below_drew1 | refine below_set ?_ GE202.out | refine below_set ?_ GE203.out | refine below_set ?_ GE204.out) | exact HB.out)⟩
          · rw [if_neg c174] at H
            have c174b0 : (t228 == 0) = false := beq_eq_false_iff_ne.mpr c174
            have c174b1 : (t228 != 0) = true := bne_iff_ne.mpr c174
            simp only [Option.some.injEq, Prod.mk.injEq] at H
            obtain ⟨rfl, rfl, rfl, rfl, rfl⟩ := H
            have hnb183 := NB202_203.out
            have hnc183 := NB203_202.out
            have hnb184 := NB202_204.out
            have hnc184 := NB204_202.out
            have hcz185_0 : wr.cell? ⟨gb202, 0, none⟩ = some (.int .u8 a0_0) := (blk_cell BK202.out 0).trans rfl
            have hcz185_1 : wr.cell? ⟨gb202, 1, none⟩ = some (.string a0_1) := (blk_cell BK202.out 1).trans rfl
            have hcz185_2 : wr.cell? ⟨gb202, 2, none⟩ = some (.slice A0_2 l0_2.length c0_2) := (blk_cell BK202.out 2).trans rfl
            have hcz185_3 : wr.cell? ⟨gb202, 3, none⟩ = some (.slice A0_3 l0_3.length c0_3) := (blk_cell BK202.out 3).trans rfl
            have hcz185_4 : wr.cell? ⟨gb202, 4, none⟩ = some (.slice A0_4 l0_4.length c0_4) := (blk_cell BK202.out 4).trans rfl
            have hfz185_0 := blk_frozen BK202.out 0
            have hfz185_1 := blk_frozen BK202.out 1
            have hfz185_2 := blk_frozen BK202.out 2
            have hfz185_3 := blk_frozen BK202.out 3
            have hfz185_4 := blk_frozen BK202.out 4
            have hnb186 := NB204_203.out
            have hnc186 := NB203_204.out
            have hcz187_0 : wr.cell? ⟨gb204, 0, none⟩ = some (.int .u8 0) := (blk_cell BK204.out 0).trans rfl
            have hcz187_1 : wr.cell? ⟨gb204, 1, none⟩ = some (.string (⟨#[]⟩ : ByteArray)) := (blk_cell BK204.out 1).trans rfl
            have hcz187_2 : wr.cell? ⟨gb204, 2, none⟩ = some (.slice none 0 0) := (blk_cell BK204.out 2).trans rfl
            have hcz187_3 : wr.cell? ⟨gb204, 3, none⟩ = some (.slice none 0 0) := (blk_cell BK204.out 3).trans rfl
            have hcz187_4 : wr.cell? ⟨gb204, 4, none⟩ = some (u205004) := (blk_cell BK204.out 4).trans rfl
            have hfz187_0 := blk_frozen BK204.out 0
            have hfz187_1 := blk_frozen BK204.out 1
            have hfz187_2 := blk_frozen BK204.out 2
            have hfz187_3 := blk_frozen BK204.out 3
            have hfz187_4 := blk_frozen BK204.out 4
            obtain ⟨Ao188, co188, eo188⟩ := Kd.R_slice HO_205004.out
            subst eo188
            go_wp2_with (first | ((with_reducible refine gate_callee (f := 38) rfl ?_); refine goesL_ (some 100) rfl rfl Try.func38 (by kernel_rfl) rfl #[.agg #[.int .u8 5, .string (⟨#[]⟩ : ByteArray), .slice none 0 0, .slice none 0 0, .slice Ao188 x205004_1.length co188]] rfl (by (try simp only [List.map_toArray, List.map_cons, List.map_nil]); first | done | rfl | (simp only [List.length_drop, List.length_take]; rfl)) ?_; (refine (tipstaffref09_Size.calls k1 5 (⟨#[]⟩ : ByteArray) _ _ ([] : List ByteArray) _ _ ([] : List (S66)) _ _ x205004_1 t228 _ ?side1 ?side2 ?side3 ?side4 ?side5 ?side6 A173.out).mono ?_); (case side1 => exact Kd.C_nil _ _); (case side2 => exact Nat.le_refl _); (case side3 => exact Kd.C_nil _ _); (case side4 => exact Nat.le_refl _); (case side5 => refine (Kd.R_reads' (e := 69) (base := w.heap.size) (ok := fun k_ => True) (n := x205004_1.length) (c := co188) ?_).2.2; exact (by (with_reducible repeat (first | apply Kd.R_alloc | apply Kd.R_drewN | apply Kd.R_drew)); exact (Kd.R_mono (Kd.R_far (p := ⟨gb204, 0, none⟩) (Kd.R_types HO_205004.out BK204.out (by decide)) (fun _ hk => hk.2) (.int .u8 5)) (fun _ h_ => h_.1)))); (case side6 => exact (Kd.R_reads' HO_205004.out).2.1); rintro e w189 ⟨rfl, hb⟩; refine ⟨_, rfl, ?_⟩; have n0_ := Aside0.mk (Kd.R_below (by (with_reducible repeat (first | apply Kd.R_alloc | apply Kd.R_drewN | apply Kd.R_drew)); exact (Kd.R_mono (Kd.R_far (p := ⟨gb204, 0, none⟩) (Kd.R_types HO_205004.out BK204.out (by decide)) (fun _ hk => hk.2) (.int .u8 5)) (fun _ h_ => h_.1))) hb); have n1_ := Aside0.mk (blk_below (g := gb202) (o := .cells #[.int .u8 a0_0, .string a0_1, .slice A0_2 l0_2.length c0_2, .slice A0_3 l0_3.length c0_3, .slice A0_4 l0_4.length c0_4] 26 (0, 0)) (by (with_reducible repeat (first | refine blk_drewN ?_ _ | refine blk_drew ?_ | refine blk_alloc ?_ _)); refine blk_far ?_ NB202_204.out _; (with_reducible repeat (first | refine blk_drewN ?_ _ | refine blk_drew ?_ | refine blk_alloc ?_ _)); exact BK202.out) hb); have n2_ := Aside0.mk (blk_below (g := gb203) (o := .cells #[.int .u8 0, .string (⟨#[]⟩ : ByteArray), .slice none 0 0, .slice none 0 0, .slice none 0 0] 26 (0, 0)) (by (with_reducible repeat (first | refine blk_drewN ?_ _ | refine blk_drew ?_ | refine blk_alloc ?_ _)); refine blk_far ?_ NB203_204.out _; (with_reducible repeat (first | refine blk_drewN ?_ _ | refine blk_drew ?_ | refine blk_alloc ?_ _)); exact BK203.out) hb); have n3_ := Aside0.mk (blk_below (g := gb204) (o := .cells #[.int .u8 5, .string (⟨#[]⟩ : ByteArray), .slice none 0 0, .slice none 0 0, .slice Ao188 x205004_1.length co188] 26 (0, 0)) (by (with_reducible repeat (first | refine blk_drewN ?_ _ | refine blk_drew ?_ | refine blk_alloc ?_ _)); refine blk_put (cs := #[.int .u8 0, .string (⟨#[]⟩ : ByteArray), .slice none 0 0, .slice none 0 0, .slice Ao188 x205004_1.length co188]) ?_ 0 _ rfl; (with_reducible repeat (first | refine blk_drewN ?_ _ | refine blk_drew ?_ | refine blk_alloc ?_ _)); exact BK204.out) hb); have n4_ := Aside0.mk (below_step (by repeat (first | (with_reducible first | exact HB.out | apply below_alloc | apply pw_below_drewN | apply below_drew1 | refine below_set ?_ GE202.out | refine below_set ?_ GE203.out | refine below_set ?_ GE204.out) | exact HB.out)) hb); clear HO_205004; clear BK202; clear BK203; clear BK204; clear HB; have HO_205004 := n0_; have BK202 := n1_; have BK203 := n2_; have BK204 := n3_; have HB := n4_; clear n0_ n1_ n2_ n3_ n4_; (try clear hb); (try clear hb2); (try clear hk); (try clear hi); have hcz190_0 : w189.cell? ⟨gb204, 0, none⟩ = some (.int .u8 5) := (blk_cell BK204.out 0).trans rfl; have hcz190_1 : w189.cell? ⟨gb204, 1, none⟩ = some (.string (⟨#[]⟩ : ByteArray)) := (blk_cell BK204.out 1).trans rfl; have hcz190_2 : w189.cell? ⟨gb204, 2, none⟩ = some (.slice none 0 0) := (blk_cell BK204.out 2).trans rfl; have hcz190_3 : w189.cell? ⟨gb204, 3, none⟩ = some (.slice none 0 0) := (blk_cell BK204.out 3).trans rfl; have hcz190_4 : w189.cell? ⟨gb204, 4, none⟩ = some (.slice Ao188 x205004_1.length co188) := (blk_cell BK204.out 4).trans rfl; have hfz190_0 := blk_frozen BK204.out 0; have hfz190_1 := blk_frozen BK204.out 1; have hfz190_2 := blk_frozen BK204.out 2; have hfz190_3 := blk_frozen BK204.out 3; have hfz190_4 := blk_frozen BK204.out 4; have hcz191_0 : w189.cell? ⟨gb203, 0, none⟩ = some (.int .u8 0) := (blk_cell BK203.out 0).trans rfl; have hcz191_1 : w189.cell? ⟨gb203, 1, none⟩ = some (.string (⟨#[]⟩ : ByteArray)) := (blk_cell BK203.out 1).trans rfl; have hcz191_2 : w189.cell? ⟨gb203, 2, none⟩ = some (.slice none 0 0) := (blk_cell BK203.out 2).trans rfl; have hcz191_3 : w189.cell? ⟨gb203, 3, none⟩ = some (.slice none 0 0) := (blk_cell BK203.out 3).trans rfl; have hcz191_4 : w189.cell? ⟨gb203, 4, none⟩ = some (.slice none 0 0) := (blk_cell BK203.out 4).trans rfl; have hfz191_0 := blk_frozen BK203.out 0; have hfz191_1 := blk_frozen BK203.out 1; have hfz191_2 := blk_frozen BK203.out 2; have hfz191_3 := blk_frozen BK203.out 3; have hfz191_4 := blk_frozen BK203.out 4))
            refine bodyPost_ret (results_cell_row rfl _ _ gb203 26 #[.int .u8 5, .string (⟨#[]⟩ : ByteArray), .slice none 0 0, .slice none 0 0, .slice Ao188 x205004_1.length co188] (0, 0) _ rfl (by (with_reducible repeat (first | refine blk_drewN ?_ _ | refine blk_drew ?_ | refine blk_alloc ?_ _)); refine blk_put (cs := #[.int .u8 5, .string (⟨#[]⟩ : ByteArray), .slice none 0 0, .slice none 0 0, .slice none 0 0]) ?_ 4 _ rfl; (with_reducible repeat (first | refine blk_drewN ?_ _ | refine blk_drew ?_ | refine blk_alloc ?_ _)); refine blk_put (cs := #[.int .u8 5, .string (⟨#[]⟩ : ByteArray), .slice none 0 0, .slice none 0 0, .slice none 0 0]) ?_ 3 _ rfl; (with_reducible repeat (first | refine blk_drewN ?_ _ | refine blk_drew ?_ | refine blk_alloc ?_ _)); refine blk_put (cs := #[.int .u8 5, .string (⟨#[]⟩ : ByteArray), .slice none 0 0, .slice none 0 0, .slice none 0 0]) ?_ 2 _ rfl; (with_reducible repeat (first | refine blk_drewN ?_ _ | refine blk_drew ?_ | refine blk_alloc ?_ _)); refine blk_put (cs := #[.int .u8 5, .string (⟨#[]⟩ : ByteArray), .slice none 0 0, .slice none 0 0, .slice none 0 0]) ?_ 1 _ rfl; (with_reducible repeat (first | refine blk_drewN ?_ _ | refine blk_drew ?_ | refine blk_alloc ?_ _)); refine blk_put (cs := #[.int .u8 0, .string (⟨#[]⟩ : ByteArray), .slice none 0 0, .slice none 0 0, .slice none 0 0]) ?_ 0 _ rfl; (with_reducible repeat (first | refine blk_drewN ?_ _ | refine blk_drew ?_ | refine blk_alloc ?_ _)); exact BK203.out) Try.underlying26 rfl (by kernel_rfl)) rfl ?_
            exact ⟨_, _, _, by first | rfl | (simp [errW_none, errW_some] <;> rfl) | (simp only [← hji2]; first | rfl | (simp [errW_none, errW_some] <;> rfl)) | (simp [*, errW_none, errW_some] <;> rfl), by first | exact Kd.R_nil _ _ _ _ _ | exact Kd.N_nil _ _ _ _ _ | exact Kd.V_nil _ _ _ _ _ | exact Kd.Q_nil _ _ _ _ _ | exact Kd.S_nil _ _ _ _ _, by first | exact Kd.R_nil _ _ _ _ _ | exact Kd.N_nil _ _ _ _ _ | exact Kd.V_nil _ _ _ _ _ | exact Kd.Q_nil _ _ _ _ _ | exact Kd.S_nil _ _ _ _ _, by (with_reducible repeat (first | apply Kd.R_alloc | apply Kd.R_drewN | apply Kd.R_drew)); exact Kd.R_mono (Kd.R_far (p := ⟨gb203, 4, none⟩) (Kd.R_far (p := ⟨gb203, 3, none⟩) (Kd.R_far (p := ⟨gb203, 2, none⟩) (Kd.R_far (p := ⟨gb203, 1, none⟩) (Kd.R_far (p := ⟨gb203, 0, none⟩) (Kd.R_types HO_205004.out BK203.out (by decide)) (fun _ hk => hk.2) (.int .u8 5)) (fun _ hk => hk.2) (.string (⟨#[]⟩ : ByteArray))) (fun _ hk => hk.2) (.slice none 0 0)) (fun _ hk => hk.2) (.slice none 0 0)) (fun _ hk => hk.2) (.slice Ao188 x205004_1.length co188)) (fun _ hk => trivial), by repeat (first | (with_reducible first | exact HB.out | apply below_alloc | apply pw_below_drewN | apply below_drew1 | refine below_set ?_ GE202.out | refine below_set ?_ GE203.out | refine below_set ?_ GE204.out) | exact HB.out)⟩
      · rw [if_neg c161] at H
        have c161b0 : decide (x7_1 < (l0_4.length : Int)) = false := decide_eq_false c161
        clear c161
        replace H := Option.bind_eq_some_iff.mp H
        obtain ⟨t229, A1920, H⟩ := H
        replace H : (if t229 = 0 then (some (0, (⟨#[]⟩ : ByteArray), ([] : List ByteArray), ([] : List (S66)), ([] : List (S69)))) else (some (5, (⟨#[]⟩ : ByteArray), ([] : List ByteArray), ([] : List (S66)), x205004_1))) = some (r1, r2, r3, r4, r5) := H
        have A192 := Aside0.mk A1920
        clear A1920
        by_cases c193 : t229 = 0
        · rw [if_pos c193] at H
          have c193b0 : (t229 == 0) = true := beq_iff_eq.mpr c193
          have c193b1 : (t229 != 0) = false := bne_eq_false_iff_eq.mpr c193
          clear c193
          simp only [Option.some.injEq, Prod.mk.injEq] at H
          obtain ⟨rfl, rfl, rfl, rfl, rfl⟩ := H
          have hnb194 := NB202_203.out
          have hnc194 := NB203_202.out
          have hnb195 := NB202_204.out
          have hnc195 := NB204_202.out
          have hcz196_0 : wr.cell? ⟨gb202, 0, none⟩ = some (.int .u8 a0_0) := (blk_cell BK202.out 0).trans rfl
          have hcz196_1 : wr.cell? ⟨gb202, 1, none⟩ = some (.string a0_1) := (blk_cell BK202.out 1).trans rfl
          have hcz196_2 : wr.cell? ⟨gb202, 2, none⟩ = some (.slice A0_2 l0_2.length c0_2) := (blk_cell BK202.out 2).trans rfl
          have hcz196_3 : wr.cell? ⟨gb202, 3, none⟩ = some (.slice A0_3 l0_3.length c0_3) := (blk_cell BK202.out 3).trans rfl
          have hcz196_4 : wr.cell? ⟨gb202, 4, none⟩ = some (.slice A0_4 l0_4.length c0_4) := (blk_cell BK202.out 4).trans rfl
          have hfz196_0 := blk_frozen BK202.out 0
          have hfz196_1 := blk_frozen BK202.out 1
          have hfz196_2 := blk_frozen BK202.out 2
          have hfz196_3 := blk_frozen BK202.out 3
          have hfz196_4 := blk_frozen BK202.out 4
          have hnb197 := NB204_203.out
          have hnc197 := NB203_204.out
          have hcz198_0 : wr.cell? ⟨gb204, 0, none⟩ = some (.int .u8 0) := (blk_cell BK204.out 0).trans rfl
          have hcz198_1 : wr.cell? ⟨gb204, 1, none⟩ = some (.string (⟨#[]⟩ : ByteArray)) := (blk_cell BK204.out 1).trans rfl
          have hcz198_2 : wr.cell? ⟨gb204, 2, none⟩ = some (.slice none 0 0) := (blk_cell BK204.out 2).trans rfl
          have hcz198_3 : wr.cell? ⟨gb204, 3, none⟩ = some (.slice none 0 0) := (blk_cell BK204.out 3).trans rfl
          have hcz198_4 : wr.cell? ⟨gb204, 4, none⟩ = some (u205004) := (blk_cell BK204.out 4).trans rfl
          have hfz198_0 := blk_frozen BK204.out 0
          have hfz198_1 := blk_frozen BK204.out 1
          have hfz198_2 := blk_frozen BK204.out 2
          have hfz198_3 := blk_frozen BK204.out 3
          have hfz198_4 := blk_frozen BK204.out 4
          obtain ⟨Ao199, co199, eo199⟩ := Kd.R_slice HO_205004.out
          subst eo199
          go_wp2_with (first | ((with_reducible refine gate_callee (f := 38) rfl ?_); refine goesL_ (some 100) rfl rfl Try.func38 (by kernel_rfl) rfl #[.agg #[.int .u8 5, .string (⟨#[]⟩ : ByteArray), .slice none 0 0, .slice none 0 0, .slice Ao199 x205004_1.length co199]] rfl (by (try simp only [List.map_toArray, List.map_cons, List.map_nil]); first | done | rfl | (simp only [List.length_drop, List.length_take]; rfl)) ?_; (refine (tipstaffref09_Size.calls k1 5 (⟨#[]⟩ : ByteArray) _ _ ([] : List ByteArray) _ _ ([] : List (S66)) _ _ x205004_1 t229 _ ?side1 ?side2 ?side3 ?side4 ?side5 ?side6 A192.out).mono ?_); (case side1 => exact Kd.C_nil _ _); (case side2 => exact Nat.le_refl _); (case side3 => exact Kd.C_nil _ _); (case side4 => exact Nat.le_refl _); (case side5 => refine (Kd.R_reads' (e := 69) (base := w.heap.size) (ok := fun k_ => True) (n := x205004_1.length) (c := co199) ?_).2.2; exact (by (with_reducible repeat (first | apply Kd.R_alloc | apply Kd.R_drewN | apply Kd.R_drew)); exact (Kd.R_mono (Kd.R_far (p := ⟨gb204, 0, none⟩) (Kd.R_types HO_205004.out BK204.out (by decide)) (fun _ hk => hk.2) (.int .u8 5)) (fun _ h_ => h_.1)))); (case side6 => exact (Kd.R_reads' HO_205004.out).2.1); rintro e w200 ⟨rfl, hb⟩; refine ⟨_, rfl, ?_⟩; have n0_ := Aside0.mk (Kd.R_below (by (with_reducible repeat (first | apply Kd.R_alloc | apply Kd.R_drewN | apply Kd.R_drew)); exact (Kd.R_mono (Kd.R_far (p := ⟨gb204, 0, none⟩) (Kd.R_types HO_205004.out BK204.out (by decide)) (fun _ hk => hk.2) (.int .u8 5)) (fun _ h_ => h_.1))) hb); have n1_ := Aside0.mk (blk_below (g := gb202) (o := .cells #[.int .u8 a0_0, .string a0_1, .slice A0_2 l0_2.length c0_2, .slice A0_3 l0_3.length c0_3, .slice A0_4 l0_4.length c0_4] 26 (0, 0)) (by (with_reducible repeat (first | refine blk_drewN ?_ _ | refine blk_drew ?_ | refine blk_alloc ?_ _)); refine blk_far ?_ NB202_204.out _; (with_reducible repeat (first | refine blk_drewN ?_ _ | refine blk_drew ?_ | refine blk_alloc ?_ _)); exact BK202.out) hb); have n2_ := Aside0.mk (blk_below (g := gb203) (o := .cells #[.int .u8 0, .string (⟨#[]⟩ : ByteArray), .slice none 0 0, .slice none 0 0, .slice none 0 0] 26 (0, 0)) (by (with_reducible repeat (first | refine blk_drewN ?_ _ | refine blk_drew ?_ | refine blk_alloc ?_ _)); refine blk_far ?_ NB203_204.out _; (with_reducible repeat (first | refine blk_drewN ?_ _ | refine blk_drew ?_ | refine blk_alloc ?_ _)); exact BK203.out) hb); have n3_ := Aside0.mk (blk_below (g := gb204) (o := .cells #[.int .u8 5, .string (⟨#[]⟩ : ByteArray), .slice none 0 0, .slice none 0 0, .slice Ao199 x205004_1.length co199] 26 (0, 0)) (by (with_reducible repeat (first | refine blk_drewN ?_ _ | refine blk_drew ?_ | refine blk_alloc ?_ _)); refine blk_put (cs := #[.int .u8 0, .string (⟨#[]⟩ : ByteArray), .slice none 0 0, .slice none 0 0, .slice Ao199 x205004_1.length co199]) ?_ 0 _ rfl; (with_reducible repeat (first | refine blk_drewN ?_ _ | refine blk_drew ?_ | refine blk_alloc ?_ _)); exact BK204.out) hb); have n4_ := Aside0.mk (below_step (by repeat (first | (with_reducible first | exact HB.out | apply below_alloc | apply pw_below_drewN | apply below_drew1 | refine below_set ?_ GE202.out | refine below_set ?_ GE203.out | refine below_set ?_ GE204.out) | exact HB.out)) hb); clear HO_205004; clear BK202; clear BK203; clear BK204; clear HB; have HO_205004 := n0_; have BK202 := n1_; have BK203 := n2_; have BK204 := n3_; have HB := n4_; clear n0_ n1_ n2_ n3_ n4_; (try clear hb); (try clear hb2); (try clear hk); (try clear hi); have hcz201_0 : w200.cell? ⟨gb203, 0, none⟩ = some (.int .u8 0) := (blk_cell BK203.out 0).trans rfl; have hcz201_1 : w200.cell? ⟨gb203, 1, none⟩ = some (.string (⟨#[]⟩ : ByteArray)) := (blk_cell BK203.out 1).trans rfl; have hcz201_2 : w200.cell? ⟨gb203, 2, none⟩ = some (.slice none 0 0) := (blk_cell BK203.out 2).trans rfl; have hcz201_3 : w200.cell? ⟨gb203, 3, none⟩ = some (.slice none 0 0) := (blk_cell BK203.out 3).trans rfl; have hcz201_4 : w200.cell? ⟨gb203, 4, none⟩ = some (.slice none 0 0) := (blk_cell BK203.out 4).trans rfl; have hfz201_0 := blk_frozen BK203.out 0; have hfz201_1 := blk_frozen BK203.out 1; have hfz201_2 := blk_frozen BK203.out 2; have hfz201_3 := blk_frozen BK203.out 3; have hfz201_4 := blk_frozen BK203.out 4))
          refine bodyPost_ret (results_cell_row rfl _ _ gb203 26 #[.int .u8 0, .string (⟨#[]⟩ : ByteArray), .slice none 0 0, .slice none 0 0, .slice none 0 0] (0, 0) _ rfl (by (with_reducible repeat (first | refine blk_drewN ?_ _ | refine blk_drew ?_ | refine blk_alloc ?_ _)); refine blk_put (cs := #[.int .u8 0, .string (⟨#[]⟩ : ByteArray), .slice none 0 0, .slice none 0 0, .slice none 0 0]) ?_ 4 _ rfl; (with_reducible repeat (first | refine blk_drewN ?_ _ | refine blk_drew ?_ | refine blk_alloc ?_ _)); refine blk_put (cs := #[.int .u8 0, .string (⟨#[]⟩ : ByteArray), .slice none 0 0, .slice none 0 0, .slice none 0 0]) ?_ 3 _ rfl; (with_reducible repeat (first | refine blk_drewN ?_ _ | refine blk_drew ?_ | refine blk_alloc ?_ _)); refine blk_put (cs := #[.int .u8 0, .string (⟨#[]⟩ : ByteArray), .slice none 0 0, .slice none 0 0, .slice none 0 0]) ?_ 2 _ rfl; (with_reducible repeat (first | refine blk_drewN ?_ _ | refine blk_drew ?_ | refine blk_alloc ?_ _)); refine blk_put (cs := #[.int .u8 0, .string (⟨#[]⟩ : ByteArray), .slice none 0 0, .slice none 0 0, .slice none 0 0]) ?_ 1 _ rfl; (with_reducible repeat (first | refine blk_drewN ?_ _ | refine blk_drew ?_ | refine blk_alloc ?_ _)); refine blk_put (cs := #[.int .u8 0, .string (⟨#[]⟩ : ByteArray), .slice none 0 0, .slice none 0 0, .slice none 0 0]) ?_ 0 _ rfl; (with_reducible repeat (first | refine blk_drewN ?_ _ | refine blk_drew ?_ | refine blk_alloc ?_ _)); exact BK203.out) Try.underlying26 rfl (by kernel_rfl)) rfl ?_
          exact ⟨_, _, _, by first | rfl | (simp [errW_none, errW_some] <;> rfl) | (simp only [← hji2]; first | rfl | (simp [errW_none, errW_some] <;> rfl)) | (simp [*, errW_none, errW_some] <;> rfl), by first | exact Kd.R_nil _ _ _ _ _ | exact Kd.N_nil _ _ _ _ _ | exact Kd.V_nil _ _ _ _ _ | exact Kd.Q_nil _ _ _ _ _ | exact Kd.S_nil _ _ _ _ _, by first | exact Kd.R_nil _ _ _ _ _ | exact Kd.N_nil _ _ _ _ _ | exact Kd.V_nil _ _ _ _ _ | exact Kd.Q_nil _ _ _ _ _ | exact Kd.S_nil _ _ _ _ _, by first | exact Kd.R_nil _ _ _ _ _ | exact Kd.N_nil _ _ _ _ _ | exact Kd.V_nil _ _ _ _ _ | exact Kd.Q_nil _ _ _ _ _ | exact Kd.S_nil _ _ _ _ _, by repeat (first | (with_reducible first | exact HB.out | apply below_alloc | apply pw_below_drewN | apply below_drew1 | refine below_set ?_ GE202.out | refine below_set ?_ GE203.out | refine below_set ?_ GE204.out) | exact HB.out)⟩
        · rw [if_neg c193] at H
          have c193b0 : (t229 == 0) = false := beq_eq_false_iff_ne.mpr c193
          have c193b1 : (t229 != 0) = true := bne_iff_ne.mpr c193
          simp only [Option.some.injEq, Prod.mk.injEq] at H
          obtain ⟨rfl, rfl, rfl, rfl, rfl⟩ := H
          have hnb202 := NB202_203.out
          have hnc202 := NB203_202.out
          have hnb203 := NB202_204.out
          have hnc203 := NB204_202.out
          have hcz204_0 : wr.cell? ⟨gb202, 0, none⟩ = some (.int .u8 a0_0) := (blk_cell BK202.out 0).trans rfl
          have hcz204_1 : wr.cell? ⟨gb202, 1, none⟩ = some (.string a0_1) := (blk_cell BK202.out 1).trans rfl
          have hcz204_2 : wr.cell? ⟨gb202, 2, none⟩ = some (.slice A0_2 l0_2.length c0_2) := (blk_cell BK202.out 2).trans rfl
          have hcz204_3 : wr.cell? ⟨gb202, 3, none⟩ = some (.slice A0_3 l0_3.length c0_3) := (blk_cell BK202.out 3).trans rfl
          have hcz204_4 : wr.cell? ⟨gb202, 4, none⟩ = some (.slice A0_4 l0_4.length c0_4) := (blk_cell BK202.out 4).trans rfl
          have hfz204_0 := blk_frozen BK202.out 0
          have hfz204_1 := blk_frozen BK202.out 1
          have hfz204_2 := blk_frozen BK202.out 2
          have hfz204_3 := blk_frozen BK202.out 3
          have hfz204_4 := blk_frozen BK202.out 4
          have hnb205 := NB204_203.out
          have hnc205 := NB203_204.out
          have hcz206_0 : wr.cell? ⟨gb204, 0, none⟩ = some (.int .u8 0) := (blk_cell BK204.out 0).trans rfl
          have hcz206_1 : wr.cell? ⟨gb204, 1, none⟩ = some (.string (⟨#[]⟩ : ByteArray)) := (blk_cell BK204.out 1).trans rfl
          have hcz206_2 : wr.cell? ⟨gb204, 2, none⟩ = some (.slice none 0 0) := (blk_cell BK204.out 2).trans rfl
          have hcz206_3 : wr.cell? ⟨gb204, 3, none⟩ = some (.slice none 0 0) := (blk_cell BK204.out 3).trans rfl
          have hcz206_4 : wr.cell? ⟨gb204, 4, none⟩ = some (u205004) := (blk_cell BK204.out 4).trans rfl
          have hfz206_0 := blk_frozen BK204.out 0
          have hfz206_1 := blk_frozen BK204.out 1
          have hfz206_2 := blk_frozen BK204.out 2
          have hfz206_3 := blk_frozen BK204.out 3
          have hfz206_4 := blk_frozen BK204.out 4
          obtain ⟨Ao207, co207, eo207⟩ := Kd.R_slice HO_205004.out
          subst eo207
          go_wp2_with (first | ((with_reducible refine gate_callee (f := 38) rfl ?_); refine goesL_ (some 100) rfl rfl Try.func38 (by kernel_rfl) rfl #[.agg #[.int .u8 5, .string (⟨#[]⟩ : ByteArray), .slice none 0 0, .slice none 0 0, .slice Ao207 x205004_1.length co207]] rfl (by (try simp only [List.map_toArray, List.map_cons, List.map_nil]); first | done | rfl | (simp only [List.length_drop, List.length_take]; rfl)) ?_; (refine (tipstaffref09_Size.calls k1 5 (⟨#[]⟩ : ByteArray) _ _ ([] : List ByteArray) _ _ ([] : List (S66)) _ _ x205004_1 t229 _ ?side1 ?side2 ?side3 ?side4 ?side5 ?side6 A192.out).mono ?_); (case side1 => exact Kd.C_nil _ _); (case side2 => exact Nat.le_refl _); (case side3 => exact Kd.C_nil _ _); (case side4 => exact Nat.le_refl _); (case side5 => refine (Kd.R_reads' (e := 69) (base := w.heap.size) (ok := fun k_ => True) (n := x205004_1.length) (c := co207) ?_).2.2; exact (by (with_reducible repeat (first | apply Kd.R_alloc | apply Kd.R_drewN | apply Kd.R_drew)); exact (Kd.R_mono (Kd.R_far (p := ⟨gb204, 0, none⟩) (Kd.R_types HO_205004.out BK204.out (by decide)) (fun _ hk => hk.2) (.int .u8 5)) (fun _ h_ => h_.1)))); (case side6 => exact (Kd.R_reads' HO_205004.out).2.1); rintro e w208 ⟨rfl, hb⟩; refine ⟨_, rfl, ?_⟩; have n0_ := Aside0.mk (Kd.R_below (by (with_reducible repeat (first | apply Kd.R_alloc | apply Kd.R_drewN | apply Kd.R_drew)); exact (Kd.R_mono (Kd.R_far (p := ⟨gb204, 0, none⟩) (Kd.R_types HO_205004.out BK204.out (by decide)) (fun _ hk => hk.2) (.int .u8 5)) (fun _ h_ => h_.1))) hb); have n1_ := Aside0.mk (blk_below (g := gb202) (o := .cells #[.int .u8 a0_0, .string a0_1, .slice A0_2 l0_2.length c0_2, .slice A0_3 l0_3.length c0_3, .slice A0_4 l0_4.length c0_4] 26 (0, 0)) (by (with_reducible repeat (first | refine blk_drewN ?_ _ | refine blk_drew ?_ | refine blk_alloc ?_ _)); refine blk_far ?_ NB202_204.out _; (with_reducible repeat (first | refine blk_drewN ?_ _ | refine blk_drew ?_ | refine blk_alloc ?_ _)); exact BK202.out) hb); have n2_ := Aside0.mk (blk_below (g := gb203) (o := .cells #[.int .u8 0, .string (⟨#[]⟩ : ByteArray), .slice none 0 0, .slice none 0 0, .slice none 0 0] 26 (0, 0)) (by (with_reducible repeat (first | refine blk_drewN ?_ _ | refine blk_drew ?_ | refine blk_alloc ?_ _)); refine blk_far ?_ NB203_204.out _; (with_reducible repeat (first | refine blk_drewN ?_ _ | refine blk_drew ?_ | refine blk_alloc ?_ _)); exact BK203.out) hb); have n3_ := Aside0.mk (blk_below (g := gb204) (o := .cells #[.int .u8 5, .string (⟨#[]⟩ : ByteArray), .slice none 0 0, .slice none 0 0, .slice Ao207 x205004_1.length co207] 26 (0, 0)) (by (with_reducible repeat (first | refine blk_drewN ?_ _ | refine blk_drew ?_ | refine blk_alloc ?_ _)); refine blk_put (cs := #[.int .u8 0, .string (⟨#[]⟩ : ByteArray), .slice none 0 0, .slice none 0 0, .slice Ao207 x205004_1.length co207]) ?_ 0 _ rfl; (with_reducible repeat (first | refine blk_drewN ?_ _ | refine blk_drew ?_ | refine blk_alloc ?_ _)); exact BK204.out) hb); have n4_ := Aside0.mk (below_step (by repeat (first | (with_reducible first | exact HB.out | apply below_alloc | apply pw_below_drewN | apply below_drew1 | refine below_set ?_ GE202.out | refine below_set ?_ GE203.out | refine below_set ?_ GE204.out) | exact HB.out)) hb); clear HO_205004; clear BK202; clear BK203; clear BK204; clear HB; have HO_205004 := n0_; have BK202 := n1_; have BK203 := n2_; have BK204 := n3_; have HB := n4_; clear n0_ n1_ n2_ n3_ n4_; (try clear hb); (try clear hb2); (try clear hk); (try clear hi); have hcz209_0 : w208.cell? ⟨gb204, 0, none⟩ = some (.int .u8 5) := (blk_cell BK204.out 0).trans rfl; have hcz209_1 : w208.cell? ⟨gb204, 1, none⟩ = some (.string (⟨#[]⟩ : ByteArray)) := (blk_cell BK204.out 1).trans rfl; have hcz209_2 : w208.cell? ⟨gb204, 2, none⟩ = some (.slice none 0 0) := (blk_cell BK204.out 2).trans rfl; have hcz209_3 : w208.cell? ⟨gb204, 3, none⟩ = some (.slice none 0 0) := (blk_cell BK204.out 3).trans rfl; have hcz209_4 : w208.cell? ⟨gb204, 4, none⟩ = some (.slice Ao207 x205004_1.length co207) := (blk_cell BK204.out 4).trans rfl; have hfz209_0 := blk_frozen BK204.out 0; have hfz209_1 := blk_frozen BK204.out 1; have hfz209_2 := blk_frozen BK204.out 2; have hfz209_3 := blk_frozen BK204.out 3; have hfz209_4 := blk_frozen BK204.out 4; have hcz210_0 : w208.cell? ⟨gb203, 0, none⟩ = some (.int .u8 0) := (blk_cell BK203.out 0).trans rfl; have hcz210_1 : w208.cell? ⟨gb203, 1, none⟩ = some (.string (⟨#[]⟩ : ByteArray)) := (blk_cell BK203.out 1).trans rfl; have hcz210_2 : w208.cell? ⟨gb203, 2, none⟩ = some (.slice none 0 0) := (blk_cell BK203.out 2).trans rfl; have hcz210_3 : w208.cell? ⟨gb203, 3, none⟩ = some (.slice none 0 0) := (blk_cell BK203.out 3).trans rfl; have hcz210_4 : w208.cell? ⟨gb203, 4, none⟩ = some (.slice none 0 0) := (blk_cell BK203.out 4).trans rfl; have hfz210_0 := blk_frozen BK203.out 0; have hfz210_1 := blk_frozen BK203.out 1; have hfz210_2 := blk_frozen BK203.out 2; have hfz210_3 := blk_frozen BK203.out 3; have hfz210_4 := blk_frozen BK203.out 4))
          refine bodyPost_ret (results_cell_row rfl _ _ gb203 26 #[.int .u8 5, .string (⟨#[]⟩ : ByteArray), .slice none 0 0, .slice none 0 0, .slice Ao207 x205004_1.length co207] (0, 0) _ rfl (by (with_reducible repeat (first | refine blk_drewN ?_ _ | refine blk_drew ?_ | refine blk_alloc ?_ _)); refine blk_put (cs := #[.int .u8 5, .string (⟨#[]⟩ : ByteArray), .slice none 0 0, .slice none 0 0, .slice none 0 0]) ?_ 4 _ rfl; (with_reducible repeat (first | refine blk_drewN ?_ _ | refine blk_drew ?_ | refine blk_alloc ?_ _)); refine blk_put (cs := #[.int .u8 5, .string (⟨#[]⟩ : ByteArray), .slice none 0 0, .slice none 0 0, .slice none 0 0]) ?_ 3 _ rfl; (with_reducible repeat (first | refine blk_drewN ?_ _ | refine blk_drew ?_ | refine blk_alloc ?_ _)); refine blk_put (cs := #[.int .u8 5, .string (⟨#[]⟩ : ByteArray), .slice none 0 0, .slice none 0 0, .slice none 0 0]) ?_ 2 _ rfl; (with_reducible repeat (first | refine blk_drewN ?_ _ | refine blk_drew ?_ | refine blk_alloc ?_ _)); refine blk_put (cs := #[.int .u8 5, .string (⟨#[]⟩ : ByteArray), .slice none 0 0, .slice none 0 0, .slice none 0 0]) ?_ 1 _ rfl; (with_reducible repeat (first | refine blk_drewN ?_ _ | refine blk_drew ?_ | refine blk_alloc ?_ _)); refine blk_put (cs := #[.int .u8 0, .string (⟨#[]⟩ : ByteArray), .slice none 0 0, .slice none 0 0, .slice none 0 0]) ?_ 0 _ rfl; (with_reducible repeat (first | refine blk_drewN ?_ _ | refine blk_drew ?_ | refine blk_alloc ?_ _)); exact BK203.out) Try.underlying26 rfl (by kernel_rfl)) rfl ?_
          exact ⟨_, _, _, by first | rfl | (simp [errW_none, errW_some] <;> rfl) | (simp only [← hji2]; first | rfl | (simp [errW_none, errW_some] <;> rfl)) | (simp [*, errW_none, errW_some] <;> rfl), by first | exact Kd.R_nil _ _ _ _ _ | exact Kd.N_nil _ _ _ _ _ | exact Kd.V_nil _ _ _ _ _ | exact Kd.Q_nil _ _ _ _ _ | exact Kd.S_nil _ _ _ _ _, by first | exact Kd.R_nil _ _ _ _ _ | exact Kd.N_nil _ _ _ _ _ | exact Kd.V_nil _ _ _ _ _ | exact Kd.Q_nil _ _ _ _ _ | exact Kd.S_nil _ _ _ _ _, by (with_reducible repeat (first | apply Kd.R_alloc | apply Kd.R_drewN | apply Kd.R_drew)); exact Kd.R_mono (Kd.R_far (p := ⟨gb203, 4, none⟩) (Kd.R_far (p := ⟨gb203, 3, none⟩) (Kd.R_far (p := ⟨gb203, 2, none⟩) (Kd.R_far (p := ⟨gb203, 1, none⟩) (Kd.R_far (p := ⟨gb203, 0, none⟩) (Kd.R_types HO_205004.out BK203.out (by decide)) (fun _ hk => hk.2) (.int .u8 5)) (fun _ hk => hk.2) (.string (⟨#[]⟩ : ByteArray))) (fun _ hk => hk.2) (.slice none 0 0)) (fun _ hk => hk.2) (.slice none 0 0)) (fun _ hk => hk.2) (.slice Ao207 x205004_1.length co207)) (fun _ hk => trivial), by repeat (first | (with_reducible first | exact HB.out | apply below_alloc | apply pw_below_drewN | apply below_drew1 | refine below_set ?_ GE202.out | refine below_set ?_ GE203.out | refine below_set ?_ GE204.out) | exact HB.out)⟩
end Go.Proofs.Ytmhdkjihhdljlaa.X
