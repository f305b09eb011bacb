-- Written by a program of the session (wip/xprint.py): the kit's printer, beside contracts of the session's own.
import Derived.Test.YtmhdkjihhdljlaaXx12h
namespace Go.Proofs.Ytmhdkjihhdljlaa.X
open Go.RowKit Go.Proofs.YtmhdkjihhdljlaaW.PrintWords Go.Proofs.YtmhdkjihhdljlaaW.PrintLast Go.Proofs.YtmhdkjihhdljlaaW.PrintMore
attribute [local go_sem] binOp_str_gtr binOp_str_leq binOp_str_geq max2_int min2_int max_two min_two max_three min_three max_four min_four   -- for this text's walks alone
set_option linter.unusedVariables false
set_option linter.unusedSimpArgs false
set_option maxHeartbeats 8000000 in
set_option maxRecDepth 100000 in
theorem tipstaffref09_Fit.part3 (k : Nat) (a0_0 : Int) (a0_1 : ByteArray) (A0_2 : Option Addr) (c0_2 : Nat) (l0_2 : List ByteArray) (A0_3 : Option Addr) (c0_3 : Nat) (l0_3 : List (S66)) (A0_4 : Option Addr) (c0_4 : Nat) (l0_4 : List (S69)) (r1 : Int) (r2 : ByteArray) (r3 : List ByteArray) (r4 : List (S66)) (r5 : List (S69)) (w : World) (hr0_2 : Kd.C Kd.string w A0_2 l0_2.length l0_2) (hc0_2 : l0_2.length ≤ c0_2) (hr0_3 : Kd.C k66 w A0_3 l0_3.length l0_3) (hc0_3 : l0_3.length ≤ c0_3) (hr0_4 : Kd.C k69 w A0_4 l0_4.length l0_4) (hc0_4 : l0_4.length ≤ c0_4) (h : tipstaffref09_Fit.f k a0_0 a0_1 l0_2 l0_3 l0_4 = some (r1, r2, r3, r4, r5)) (h_c5 : ¬ ((Int.tmod a0_0 6) = 1)) (h_c19 : ¬ ((Int.tmod a0_0 6) = 2)) (h_c56 : ¬ ((Int.tmod a0_0 6) = 4)) (h_c91 : (Int.tmod a0_0 6) = 3) :
    Calls Try.prog 11 #[.agg #[.int .u8 a0_0, .string a0_1, .slice A0_2 l0_2.length c0_2, .slice A0_3 l0_3.length c0_3, .slice A0_4 l0_4.length c0_4]] w fun e w' => ∃ v2_ v3_ v4_ : Value, e = .returned (.agg #[.int .u8 r1, .string r2, v2_, v3_, v4_]) ∧ Kd.R Kd.string 9 w' w.heap.size (fun _ => True) v2_ r3 ∧ Kd.R k66 66 w' w.heap.size (fun _ => True) v3_ r4 ∧ Kd.R k69 69 w' w.heap.size (fun _ => True) v4_ r5 ∧ Below w.heap.size w w' := by
  have hu26 := Try.underlying26
  have hu66 := Try.underlying66
  have hu69 := Try.underlying69
  have HR0_2 := Aside0.mk hr0_2
  have HC0_2 := Aside0.mk hc0_2
  clear hr0_2 hc0_2
  have HR0_3 := Aside0.mk hr0_3
  have HC0_3 := Aside0.mk hc0_3
  clear hr0_3 hc0_3
  have HR0_4 := Aside0.mk hr0_4
  have HC0_4 := Aside0.mk hc0_4
  clear hr0_4 hc0_4
  have HB := Aside0.mk (Below.refl w.heap.size w)
  have H : (if 0 ≤ (mn (l0_2.length : Int) 8) then (if (mn (l0_2.length : Int) 8) ≤ (l0_2.length : Int) then (if (Int.tmod a0_0 6) = 1 then (if 0 ≤ (mn (a0_1.size : Int) 40) then (if (mn (a0_1.size : Int) 40) ≤ (a0_1.size : Int) then (some (1, a0_1.extract 0 ((mn (a0_1.size : Int) 40) : Int).toNat, ([] : List ByteArray), ([] : List (S66)), ([] : List (S69)))) else (none)) else (none)) else (if (Int.tmod a0_0 6) = 2 then ((some (([] : List ByteArray) : List ByteArray)).bind fun y206 => (if y206.length + (l0_2.take ((mn (l0_2.length : Int) 8) : Int).toNat).length < 8796093022208 then ((some (y206 ++ (l0_2.take ((mn (l0_2.length : Int) 8) : Int).toNat) : List ByteArray)).bind fun y209 => ((tipstaffref09_Size.f k 2 (⟨#[]⟩ : ByteArray) y209 ([] : List (S66)) ([] : List (S69))).bind fun t212 => (if t212 = 0 then (some (0, (⟨#[]⟩ : ByteArray), ([] : List ByteArray), ([] : List (S66)), ([] : List (S69)))) else (some (2, (⟨#[]⟩ : ByteArray), y209, ([] : List (S66)), ([] : List (S69))))))) else (none))) else (if (Int.tmod a0_0 6) = 4 then (tipstaffref09_Fit.l0 k (l0_2.take ((mn (l0_2.length : Int) 8) : Int).toNat) 0 0 (⟨#[]⟩ : ByteArray) ([] : List ByteArray)) else (if (Int.tmod a0_0 6) = 3 then (tipstaffref09_Fit.l1 k 0 a0_0 a0_1 l0_2 l0_3 l0_4 0 (⟨#[]⟩ : ByteArray) ([] : List (S66))) else (if (Int.tmod a0_0 6) = 5 then (tipstaffref09_Fit.l2 k 0 a0_0 a0_1 l0_2 l0_3 l0_4 0 (⟨#[]⟩ : ByteArray) ([] : List (S69))) else ((tipstaffref09_Size.f k 0 (⟨#[]⟩ : ByteArray) ([] : List ByteArray) ([] : List (S66)) ([] : List (S69))).bind fun t230 => (if t230 = 0 then (some (0, (⟨#[]⟩ : ByteArray), ([] : List ByteArray), ([] : List (S66)), ([] : List (S69)))) else (some (0, (⟨#[]⟩ : ByteArray), ([] : List ByteArray), ([] : List (S66)), ([] : List (S69))))))))))) else (none)) else (none)) = some (r1, r2, r3, r4, r5) := h
  clear h
  obtain ⟨ji2, hji2⟩ : ∃ j_ : Int, (mn (l0_2.length : Int) 8) = j_ := ⟨_, rfl⟩
  replace H : (if 0 ≤ (ji2) then (if (ji2) ≤ (l0_2.length : Int) then (if (Int.tmod a0_0 6) = 1 then (if 0 ≤ (mn (a0_1.size : Int) 40) then (if (mn (a0_1.size : Int) 40) ≤ (a0_1.size : Int) then (some (1, a0_1.extract 0 ((mn (a0_1.size : Int) 40) : Int).toNat, ([] : List ByteArray), ([] : List (S66)), ([] : List (S69)))) else (none)) else (none)) else (if (Int.tmod a0_0 6) = 2 then ((some (([] : List ByteArray) : List ByteArray)).bind fun y206 => (if y206.length + (l0_2.take ((ji2) : Int).toNat).length < 8796093022208 then ((some (y206 ++ (l0_2.take ((ji2) : Int).toNat) : List ByteArray)).bind fun y209 => ((tipstaffref09_Size.f k 2 (⟨#[]⟩ : ByteArray) y209 ([] : List (S66)) ([] : List (S69))).bind fun t212 => (if t212 = 0 then (some (0, (⟨#[]⟩ : ByteArray), ([] : List ByteArray), ([] : List (S66)), ([] : List (S69)))) else (some (2, (⟨#[]⟩ : ByteArray), y209, ([] : List (S66)), ([] : List (S69))))))) else (none))) else (if (Int.tmod a0_0 6) = 4 then (tipstaffref09_Fit.l0 k (l0_2.take ((ji2) : Int).toNat) 0 0 (⟨#[]⟩ : ByteArray) ([] : List ByteArray)) else (if (Int.tmod a0_0 6) = 3 then (tipstaffref09_Fit.l1 k 0 a0_0 a0_1 l0_2 l0_3 l0_4 0 (⟨#[]⟩ : ByteArray) ([] : List (S66))) else (if (Int.tmod a0_0 6) = 5 then (tipstaffref09_Fit.l2 k 0 a0_0 a0_1 l0_2 l0_3 l0_4 0 (⟨#[]⟩ : ByteArray) ([] : List (S69))) else ((tipstaffref09_Size.f k 0 (⟨#[]⟩ : ByteArray) ([] : List ByteArray) ([] : List (S66)) ([] : List (S69))).bind fun t230 => (if t230 = 0 then (some (0, (⟨#[]⟩ : ByteArray), ([] : List ByteArray), ([] : List (S66)), ([] : List (S69)))) else (some (0, (⟨#[]⟩ : ByteArray), ([] : List ByteArray), ([] : List (S66)), ([] : List (S69))))))))))) else (none)) else (none)) = some (r1, r2, r3, r4, r5) := by first | (rw [hji2] at H; exact H) | (simp only [hji2] at H ⊢; exact H)
  (try (have hji2h : ji2 ≤ 8 := by (rw [← hji2]; unfold mn; (repeat' split) <;> omega)))
  (try (have hji2g : ji2 ≤ 64 := by omega))
  (try (have hji2l : 0 ≤ ji2 := by (rw [← hji2]; unfold mn; (repeat' split) <;> omega)))
  (try (have hji2m : 0 ≤ ji2 := by omega))
  have hji2_ : (if 8 < (l0_2.length : Int) then 8 else (l0_2.length : Int)) = ji2 := hji2
  by_cases c3 : 0 ≤ (ji2)
  rotate_left
  · rw [if_neg c3] at H
    exact absurd H (by simp)
  rw [if_pos c3] at H
  have c3b0 := eq_true c3
  have c3b1 : decide (0 ≤ (ji2)) = true := decide_eq_true c3
  clear c3
  by_cases c4 : (ji2) ≤ (l0_2.length : Int)
  rotate_left
  · rw [if_neg c4] at H
    exact absurd H (by simp)
  rw [if_pos c4] at H
  have c4b0 := eq_true c4
  have c4b1 : decide ((ji2) ≤ (l0_2.length : Int)) = true := decide_eq_true c4
  clear c4
  have c5 := h_c5
  clear h_c5
  rw [if_neg c5] at H
  have c5b0 : ((Int.tmod a0_0 6) == 1) = false := beq_eq_false_iff_ne.mpr c5
  have c5b1 : ((Int.tmod a0_0 6) != 1) = true := bne_iff_ne.mpr c5
  have c19 := h_c19
  clear h_c19
  rw [if_neg c19] at H
  have c19b0 : ((Int.tmod a0_0 6) == 2) = false := beq_eq_false_iff_ne.mpr c19
  have c19b1 : ((Int.tmod a0_0 6) != 2) = true := bne_iff_ne.mpr c19
  have c56 := h_c56
  clear h_c56
  rw [if_neg c56] at H
  have c56b0 : ((Int.tmod a0_0 6) == 4) = false := beq_eq_false_iff_ne.mpr c56
  have c56b1 : ((Int.tmod a0_0 6) != 4) = true := bne_iff_ne.mpr c56
  have c91 := h_c91
  clear h_c91
  rw [if_pos c91] at H
  have c91b0 : ((Int.tmod a0_0 6) == 3) = true := beq_iff_eq.mpr c91
  have c91b1 : ((Int.tmod a0_0 6) != 3) = false := bne_eq_false_iff_eq.mpr c91
  clear c91
  have H' := Aside0.mk H
  clear H
  go_enter Try.func11, Try.ntmps11
  go_wp2_with (first | ((with_reducible refine gate_dst (N := 1) rfl ?_); refine box_event ?hg (N := 1) ?hd (cs := #[.int .u8 a0_0, .string a0_1, .slice A0_2 l0_2.length c0_2, .slice A0_3 l0_3.length c0_3, .slice A0_4 l0_4.length c0_4]) (t := 26) ?hr ?_; (case hd => rfl); (case hg => rfl); (case hr => first | (go_simp; done) | (go_simp; rfl)); intro gb202 hg w92 hbox hb; have n0_ := Aside0.mk (below_step (by repeat (first | (with_reducible first | exact HB.out | apply below_alloc | apply pw_below_drewN | apply below_drew1) | exact HB.out)) hb); have n1_ := Aside0.mk (hbox); have n2_ := Aside0.mk ((by rw [hg]; exact (below_size (by repeat (first | (with_reducible first | exact HB.out | apply below_alloc | apply pw_below_drewN | apply below_drew1) | exact HB.out))) : w.heap.size ≤ gb202)); have n3_ := Aside0.mk ((by rw [hg]; exact (below_size (by repeat (first | (with_reducible first | exact HB.out | apply below_alloc | apply pw_below_drewN | apply below_drew1) | exact HB.out))) : w.heap.size ≤ gb202)); clear HB; have HB := n0_; have BK202 := n1_; have GW202 := n2_; have GE202 := n3_; clear n0_ n1_ n2_ n3_; clear hb hbox hg) | ((with_reducible refine gate_dst (N := 2) rfl ?_); refine box_event ?hg (N := 2) ?hd (cs := #[.int .u8 0, .string (⟨#[]⟩ : ByteArray), .slice none 0 0, .slice none 0 0, .slice none 0 0]) (t := 26) ?hr ?_; (case hd => rfl); (case hg => rfl); (case hr => first | (go_simp; done) | (go_simp; rfl)); intro gb203 hg w93 hbox hb; have n0_ := Aside0.mk (blk_below (g := gb202) (o := .cells #[.int .u8 a0_0, .string a0_1, .slice A0_2 l0_2.length c0_2, .slice A0_3 l0_3.length c0_3, .slice A0_4 l0_4.length c0_4] 26 (0, 0)) (by (with_reducible repeat (first | refine blk_drewN ?_ _ | refine blk_drew ?_ | refine blk_alloc ?_ _)); exact BK202.out) hb); have n1_ := Aside0.mk (below_step (by repeat (first | (with_reducible first | exact HB.out | apply below_alloc | apply pw_below_drewN | apply below_drew1 | refine below_set ?_ GE202.out) | exact HB.out)) hb); have n2_ := Aside0.mk (hbox); have n3_ := Aside0.mk ((by rw [hg]; exact (below_size (by repeat (first | (with_reducible first | exact HB.out | apply below_alloc | apply pw_below_drewN | apply below_drew1 | refine below_set ?_ GE202.out) | exact HB.out))) : w.heap.size ≤ gb203)); have n4_ := Aside0.mk ((by rw [hg]; exact (below_size (by repeat (first | (with_reducible first | exact HB.out | apply below_alloc | apply pw_below_drewN | apply below_drew1 | refine below_set ?_ GE202.out) | exact HB.out))) : w.heap.size ≤ gb203)); have n5_ := Aside0.mk ((by rw [hg]; exact Nat.ne_of_lt (blk_lt (g := gb202) (o := .cells #[.int .u8 a0_0, .string a0_1, .slice A0_2 l0_2.length c0_2, .slice A0_3 l0_3.length c0_3, .slice A0_4 l0_4.length c0_4] 26 (0, 0)) (by (with_reducible repeat (first | refine blk_drewN ?_ _ | refine blk_drew ?_ | refine blk_alloc ?_ _)); exact BK202.out)) : gb202 ≠ gb203)); have n6_ := Aside0.mk ((by rw [hg]; exact Nat.ne_of_gt (blk_lt (g := gb202) (o := .cells #[.int .u8 a0_0, .string a0_1, .slice A0_2 l0_2.length c0_2, .slice A0_3 l0_3.length c0_3, .slice A0_4 l0_4.length c0_4] 26 (0, 0)) (by (with_reducible repeat (first | refine blk_drewN ?_ _ | refine blk_drew ?_ | refine blk_alloc ?_ _)); exact BK202.out)) : gb203 ≠ gb202)); clear BK202; clear HB; have BK202 := n0_; have HB := n1_; have BK203 := n2_; have GW203 := n3_; have GE203 := n4_; have NB202_203 := n5_; have NB203_202 := n6_; clear n0_ n1_ n2_ n3_ n4_ n5_ n6_; clear hb hbox hg) | ((with_reducible refine gate_dst (N := 3) rfl ?_); refine box_event ?hg (N := 3) ?hd (cs := #[.int .u8 0, .string (⟨#[]⟩ : ByteArray), .slice none 0 0, .slice none 0 0, .slice none 0 0]) (t := 26) ?hr ?_; (case hd => rfl); (case hg => rfl); (case hr => first | (go_simp; done) | (go_simp; rfl)); intro gb204 hg w94 hbox hb; have n0_ := Aside0.mk (blk_below (g := gb202) (o := .cells #[.int .u8 a0_0, .string a0_1, .slice A0_2 l0_2.length c0_2, .slice A0_3 l0_3.length c0_3, .slice A0_4 l0_4.length c0_4] 26 (0, 0)) (by (with_reducible repeat (first | refine blk_drewN ?_ _ | refine blk_drew ?_ | refine blk_alloc ?_ _)); exact BK202.out) hb); have n1_ := Aside0.mk (blk_below (g := gb203) (o := .cells #[.int .u8 0, .string (⟨#[]⟩ : ByteArray), .slice none 0 0, .slice none 0 0, .slice none 0 0] 26 (0, 0)) (by (with_reducible repeat (first | refine blk_drewN ?_ _ | refine blk_drew ?_ | refine blk_alloc ?_ _)); exact BK203.out) hb); have n2_ := Aside0.mk (below_step (by repeat (first | (with_reducible first | exact HB.out | apply below_alloc | apply pw_below_drewN | apply below_drew1 | refine below_set ?_ GE202.out | refine below_set ?_ GE203.out) | exact HB.out)) hb); have n3_ := Aside0.mk (hbox); have n4_ := Aside0.mk ((by rw [hg]; exact (below_size (by repeat (first | (with_reducible first | exact HB.out | apply below_alloc | apply pw_below_drewN | apply below_drew1 | refine below_set ?_ GE202.out | refine below_set ?_ GE203.out) | exact HB.out))) : w.heap.size ≤ gb204)); have n5_ := Aside0.mk ((by rw [hg]; exact (below_size (by repeat (first | (with_reducible first | exact HB.out | apply below_alloc | apply pw_below_drewN | apply below_drew1 | refine below_set ?_ GE202.out | refine below_set ?_ GE203.out) | exact HB.out))) : w.heap.size ≤ gb204)); have n6_ := Aside0.mk ((by rw [hg]; exact Nat.ne_of_lt (blk_lt (g := gb202) (o := .cells #[.int .u8 a0_0, .string a0_1, .slice A0_2 l0_2.length c0_2, .slice A0_3 l0_3.length c0_3, .slice A0_4 l0_4.length c0_4] 26 (0, 0)) (by (with_reducible repeat (first | refine blk_drewN ?_ _ | refine blk_drew ?_ | refine blk_alloc ?_ _)); exact BK202.out)) : gb202 ≠ gb204)); have n7_ := Aside0.mk ((by rw [hg]; exact Nat.ne_of_gt (blk_lt (g := gb202) (o := .cells #[.int .u8 a0_0, .string a0_1, .slice A0_2 l0_2.length c0_2, .slice A0_3 l0_3.length c0_3, .slice A0_4 l0_4.length c0_4] 26 (0, 0)) (by (with_reducible repeat (first | refine blk_drewN ?_ _ | refine blk_drew ?_ | refine blk_alloc ?_ _)); exact BK202.out)) : gb204 ≠ gb202)); have n8_ := Aside0.mk ((by rw [hg]; exact Nat.ne_of_lt (blk_lt (g := gb203) (o := .cells #[.int .u8 0, .string (⟨#[]⟩ : ByteArray), .slice none 0 0, .slice none 0 0, .slice none 0 0] 26 (0, 0)) (by (with_reducible repeat (first | refine blk_drewN ?_ _ | refine blk_drew ?_ | refine blk_alloc ?_ _)); exact BK203.out)) : gb203 ≠ gb204)); have n9_ := Aside0.mk ((by rw [hg]; exact Nat.ne_of_gt (blk_lt (g := gb203) (o := .cells #[.int .u8 0, .string (⟨#[]⟩ : ByteArray), .slice none 0 0, .slice none 0 0, .slice none 0 0] 26 (0, 0)) (by (with_reducible repeat (first | refine blk_drewN ?_ _ | refine blk_drew ?_ | refine blk_alloc ?_ _)); exact BK203.out)) : gb204 ≠ gb203)); clear BK202; clear BK203; clear HB; have BK202 := n0_; have BK203 := n1_; have HB := n2_; have BK204 := n3_; have GW204 := n4_; have GE204 := n5_; have NB202_204 := n6_; have NB204_202 := n7_; have NB203_204 := n8_; have NB204_203 := n9_; clear n0_ n1_ n2_ n3_ n4_ n5_ n6_ n7_ n8_ n9_; clear hb hbox hg; have hnb95 := NB204_202.out; have hnc95 := NB202_204.out; have hnb96 := NB204_203.out; have hnc96 := NB203_204.out; have hcz97_0 : w94.cell? ⟨gb204, 0, none⟩ = some (.int .u8 0) := (blk_cell BK204.out 0).trans rfl; have hcz97_1 : w94.cell? ⟨gb204, 1, none⟩ = some (.string (⟨#[]⟩ : ByteArray)) := (blk_cell BK204.out 1).trans rfl; have hcz97_2 : w94.cell? ⟨gb204, 2, none⟩ = some (.slice none 0 0) := (blk_cell BK204.out 2).trans rfl; have hcz97_3 : w94.cell? ⟨gb204, 3, none⟩ = some (.slice none 0 0) := (blk_cell BK204.out 3).trans rfl; have hcz97_4 : w94.cell? ⟨gb204, 4, none⟩ = some (.slice none 0 0) := (blk_cell BK204.out 4).trans rfl; have hfz97_0 := blk_frozen BK204.out 0; have hfz97_1 := blk_frozen BK204.out 1; have hfz97_2 := blk_frozen BK204.out 2; have hfz97_3 := blk_frozen BK204.out 3; have hfz97_4 := blk_frozen BK204.out 4; have hnb98 := NB202_203.out; have hnc98 := NB203_202.out; have hcz99_0 : w94.cell? ⟨gb202, 0, none⟩ = some (.int .u8 a0_0) := (blk_cell BK202.out 0).trans rfl; have hcz99_1 : w94.cell? ⟨gb202, 1, none⟩ = some (.string a0_1) := (blk_cell BK202.out 1).trans rfl; have hcz99_2 : w94.cell? ⟨gb202, 2, none⟩ = some (.slice A0_2 l0_2.length c0_2) := (blk_cell BK202.out 2).trans rfl; have hcz99_3 : w94.cell? ⟨gb202, 3, none⟩ = some (.slice A0_3 l0_3.length c0_3) := (blk_cell BK202.out 3).trans rfl; have hcz99_4 : w94.cell? ⟨gb202, 4, none⟩ = some (.slice A0_4 l0_4.length c0_4) := (blk_cell BK202.out 4).trans rfl; have hfz99_0 := blk_frozen BK202.out 0; have hfz99_1 := blk_frozen BK202.out 1; have hfz99_2 := blk_frozen BK202.out 2; have hfz99_3 := blk_frozen BK202.out 3; have hfz99_4 := blk_frozen BK202.out 4; obtain ⟨i0100, hi0100, _, hsz100, _⟩ := info_parts info9; obtain ⟨hcut100, hA100, hC100⟩ := print_take_of (P := Try.prog) Value.string (⟨#[]⟩ : ByteArray) 22 9 .i64 Try.underlying22 hi0100 hsz100 A0_2 c0_2 l0_2 (ji2) (of_decide_eq_true (by first | (with_reducible assumption) | assumption)) (of_decide_eq_true (by first | (with_reducible assumption) | assumption)) HC0_2.out; have HR205 := Aside0.mk (Kd.C_of_reads (h1 := fun _ => rfl) (hA100 _ (Kd.reads_of_C HR0_2.out))); have HC205 := Aside0.mk hC100; clear hA100 hC100 hi0100 hsz100))
  go_loopg [6] k (fun kq v6 w' => ∃ (x6_1 : Int) (x205003_1 : List (S66)) (u205003 : Value), v6 = .int .i64 x6_1 ∧ Aside0 (tipstaffref09_Fit.l1 kq x6_1 a0_0 a0_1 l0_2 l0_3 l0_4 0 (⟨#[]⟩ : ByteArray) x205003_1 = some (r1, r2, r3, r4, r5)) ∧ Aside0 (kq ≤ k) ∧ Aside0 (Kd.R k66 66 w' w.heap.size (fun _ => True) u205003 x205003_1) ∧ Aside0 (w'.heap[gb202]? = some (.cells #[.int .u8 a0_0, .string a0_1, (.slice A0_2 l0_2.length c0_2), (.slice A0_3 l0_3.length c0_3), (.slice A0_4 l0_4.length c0_4)] 26 (0, 0))) ∧ Aside0 (w'.heap[gb203]? = some (.cells #[.int .u8 0, .string (⟨#[]⟩ : ByteArray), (.slice none 0 0), (.slice none 0 0), (.slice none 0 0)] 26 (0, 0))) ∧ Aside0 (w'.heap[gb204]? = some (.cells #[.int .u8 0, .string (⟨#[]⟩ : ByteArray), (.slice none 0 0), u205003, (.slice none 0 0)] 26 (0, 0))) ∧ Aside0 (Below w.heap.size w w'))
  case atStart => exact ⟨(0), (([] : List (S66))), (.slice none 0 0), (by first | rfl | (simp; done) | (simp [*]; done)), H', ⟨Nat.le_refl _⟩, ⟨by first | exact Kd.R_nil _ _ _ _ _ | exact Kd.N_nil _ _ _ _ _ | exact Kd.V_nil _ _ _ _ _ | exact Kd.Q_nil _ _ _ _ _ | exact Kd.S_nil _ _ _ _ _⟩, ⟨by (with_reducible repeat (first | refine blk_drewN ?_ _ | refine blk_drew ?_ | refine blk_alloc ?_ _)); refine blk_far ?_ NB202_204.out _; (with_reducible repeat (first | refine blk_drewN ?_ _ | refine blk_drew ?_ | refine blk_alloc ?_ _)); refine blk_far ?_ NB202_204.out _; (with_reducible repeat (first | refine blk_drewN ?_ _ | refine blk_drew ?_ | refine blk_alloc ?_ _)); refine blk_far ?_ NB202_204.out _; (with_reducible repeat (first | refine blk_drewN ?_ _ | refine blk_drew ?_ | refine blk_alloc ?_ _)); refine blk_far ?_ NB202_204.out _; (with_reducible repeat (first | refine blk_drewN ?_ _ | refine blk_drew ?_ | refine blk_alloc ?_ _)); refine blk_far ?_ NB202_204.out _; (with_reducible repeat (first | refine blk_drewN ?_ _ | refine blk_drew ?_ | refine blk_alloc ?_ _)); exact BK202.out⟩, ⟨by (with_reducible repeat (first | refine blk_drewN ?_ _ | refine blk_drew ?_ | refine blk_alloc ?_ _)); refine blk_far ?_ NB203_204.out _; (with_reducible repeat (first | refine blk_drewN ?_ _ | refine blk_drew ?_ | refine blk_alloc ?_ _)); refine blk_far ?_ NB203_204.out _; (with_reducible repeat (first | refine blk_drewN ?_ _ | refine blk_drew ?_ | refine blk_alloc ?_ _)); refine blk_far ?_ NB203_204.out _; (with_reducible repeat (first | refine blk_drewN ?_ _ | refine blk_drew ?_ | refine blk_alloc ?_ _)); refine blk_far ?_ NB203_204.out _; (with_reducible repeat (first | refine blk_drewN ?_ _ | refine blk_drew ?_ | refine blk_alloc ?_ _)); refine blk_far ?_ NB203_204.out _; (with_reducible repeat (first | refine blk_drewN ?_ _ | refine blk_drew ?_ | refine blk_alloc ?_ _)); exact BK203.out⟩, ⟨by (with_reducible repeat (first | refine blk_drewN ?_ _ | refine blk_drew ?_ | refine blk_alloc ?_ _)); refine blk_put (cs := #[.int .u8 0, .string (⟨#[]⟩ : ByteArray), .slice none 0 0, .slice none 0 0, .slice none 0 0]) ?_ 4 _ rfl; (with_reducible repeat (first | refine blk_drewN ?_ _ | refine blk_drew ?_ | refine blk_alloc ?_ _)); refine blk_put (cs := #[.int .u8 0, .string (⟨#[]⟩ : ByteArray), .slice none 0 0, .slice none 0 0, .slice none 0 0]) ?_ 3 _ rfl; (with_reducible repeat (first | refine blk_drewN ?_ _ | refine blk_drew ?_ | refine blk_alloc ?_ _)); refine blk_put (cs := #[.int .u8 0, .string (⟨#[]⟩ : ByteArray), .slice none 0 0, .slice none 0 0, .slice none 0 0]) ?_ 2 _ rfl; (with_reducible repeat (first | refine blk_drewN ?_ _ | refine blk_drew ?_ | refine blk_alloc ?_ _)); refine blk_put (cs := #[.int .u8 0, .string (⟨#[]⟩ : ByteArray), .slice none 0 0, .slice none 0 0, .slice none 0 0]) ?_ 1 _ rfl; (with_reducible repeat (first | refine blk_drewN ?_ _ | refine blk_drew ?_ | refine blk_alloc ?_ _)); refine blk_put (cs := #[.int .u8 0, .string (⟨#[]⟩ : ByteArray), .slice none 0 0, .slice none 0 0, .slice none 0 0]) ?_ 0 _ rfl; (with_reducible repeat (first | refine blk_drewN ?_ _ | refine blk_drew ?_ | refine blk_alloc ?_ _)); exact BK204.out⟩, ⟨by repeat (first | (with_reducible first | exact HB.out | apply below_alloc | apply pw_below_drewN | apply below_drew1 | refine below_set ?_ GE202.out | refine below_set ?_ GE203.out | refine below_set ?_ GE204.out) | exact HB.out)⟩⟩
  case round =>
    clear H'
    try clear c1
    try clear c2
    try clear p2
    try clear q2
    try clear hx2
    try clear c3
    try clear c3b0
    try clear c3b1
    try clear c4
    try clear c4b0
    try clear c4b1
    try clear c5
    try clear c5b0
    try clear c5b1
    try clear c6
    try clear p6
    try clear c7
    try clear c7b0
    try clear c7b1
    try clear c8
    try clear c8b0
    try clear c8b1
    try clear c9
    try clear c11
    try clear c12
    try clear c13
    try clear c15
    try clear c19
    try clear c19b0
    try clear c19b1
    try clear c20
    try clear p21
    try clear q21
    try clear hx21
    try clear c22
    try clear c22b0
    try clear c22b1
    try clear c26
    try clear c27
    try clear c29
    try clear c35
    try clear c38
    try clear c42
    try clear c43
    try clear c45
    try clear c56
    try clear c56b0
    try clear c56b1
    try clear c60
    try clear c61
    try clear c63
    try clear p64
    try clear c66
    try clear c66b0
    try clear c67
    try clear c67b0
    try clear c75
    try clear c75b0
    try clear c75b1
    try clear c76
    try clear c77
    try clear c81
    try clear c83
    try clear c84
    try clear c89
    try clear c91
    try clear c91b0
    try clear c91b1
    try clear c95
    try clear c96
    try clear c98
    try clear hcz14_0
    try clear hcz14_1
    try clear hcz14_2
    try clear hcz14_3
    try clear hcz14_4
    try clear hcz16_0
    try clear hcz16_1
    try clear hcz16_2
    try clear hcz16_3
    try clear hcz16_4
    try clear hcz18_0
    try clear hcz18_1
    try clear hcz18_2
    try clear hcz18_3
    try clear hcz18_4
    try clear hcz28_0
    try clear hcz28_1
    try clear hcz28_2
    try clear hcz28_3
    try clear hcz28_4
    try clear hcz30_0
    try clear hcz30_1
    try clear hcz30_2
    try clear hcz30_3
    try clear hcz30_4
    try clear hcz36_0
    try clear hcz36_1
    try clear hcz36_2
    try clear hcz36_3
    try clear hcz36_4
    try clear hcz38_0
    try clear hcz38_1
    try clear hcz38_2
    try clear hcz38_3
    try clear hcz38_4
    try clear hcz44_0
    try clear hcz44_1
    try clear hcz44_2
    try clear hcz44_3
    try clear hcz44_4
    try clear hcz46_0
    try clear hcz46_1
    try clear hcz46_2
    try clear hcz46_3
    try clear hcz46_4
    try clear hcz52_0
    try clear hcz52_1
    try clear hcz52_2
    try clear hcz52_3
    try clear hcz52_4
    try clear hcz54_0
    try clear hcz54_1
    try clear hcz54_2
    try clear hcz54_3
    try clear hcz54_4
    try clear hcz55_0
    try clear hcz55_1
    try clear hcz55_2
    try clear hcz55_3
    try clear hcz55_4
    try clear hcz62_0
    try clear hcz62_1
    try clear hcz62_2
    try clear hcz62_3
    try clear hcz62_4
    try clear hcz64_0
    try clear hcz64_1
    try clear hcz64_2
    try clear hcz64_3
    try clear hcz64_4
    try clear hcz78_0
    try clear hcz78_1
    try clear hcz78_2
    try clear hcz78_3
    try clear hcz78_4
    try clear hcz82_0
    try clear hcz82_1
    try clear hcz82_2
    try clear hcz82_3
    try clear hcz82_4
    try clear hcz85_0
    try clear hcz85_1
    try clear hcz85_2
    try clear hcz85_3
    try clear hcz85_4
    try clear hcz88_0
    try clear hcz88_1
    try clear hcz88_2
    try clear hcz88_3
    try clear hcz88_4
    try clear hcz90_0
    try clear hcz90_1
    try clear hcz90_2
    try clear hcz90_3
    try clear hcz90_4
    try clear hcz97_0
    try clear hcz97_1
    try clear hcz97_2
    try clear hcz97_3
    try clear hcz97_4
    try clear hcz99_0
    try clear hcz99_1
    try clear hcz99_2
    try clear hcz99_3
    try clear hcz99_4
    try clear hfz14_0
    try clear hfz14_1
    try clear hfz14_2
    try clear hfz14_3
    try clear hfz14_4
    try clear hfz16_0
    try clear hfz16_1
    try clear hfz16_2
    try clear hfz16_3
    try clear hfz16_4
    try clear hfz18_0
    try clear hfz18_1
    try clear hfz18_2
    try clear hfz18_3
    try clear hfz18_4
    try clear hfz28_0
    try clear hfz28_1
    try clear hfz28_2
    try clear hfz28_3
    try clear hfz28_4
    try clear hfz30_0
    try clear hfz30_1
    try clear hfz30_2
    try clear hfz30_3
    try clear hfz30_4
    try clear hfz36_0
    try clear hfz36_1
    try clear hfz36_2
    try clear hfz36_3
    try clear hfz36_4
    try clear hfz38_0
    try clear hfz38_1
    try clear hfz38_2
    try clear hfz38_3
    try clear hfz38_4
    try clear hfz44_0
    try clear hfz44_1
    try clear hfz44_2
    try clear hfz44_3
    try clear hfz44_4
    try clear hfz46_0
    try clear hfz46_1
    try clear hfz46_2
    try clear hfz46_3
    try clear hfz46_4
    try clear hfz52_0
    try clear hfz52_1
    try clear hfz52_2
    try clear hfz52_3
    try clear hfz52_4
    try clear hfz54_0
    try clear hfz54_1
    try clear hfz54_2
    try clear hfz54_3
    try clear hfz54_4
    try clear hfz55_0
    try clear hfz55_1
    try clear hfz55_2
    try clear hfz55_3
    try clear hfz55_4
    try clear hfz62_0
    try clear hfz62_1
    try clear hfz62_2
    try clear hfz62_3
    try clear hfz62_4
    try clear hfz64_0
    try clear hfz64_1
    try clear hfz64_2
    try clear hfz64_3
    try clear hfz64_4
    try clear hfz78_0
    try clear hfz78_1
    try clear hfz78_2
    try clear hfz78_3
    try clear hfz78_4
    try clear hfz82_0
    try clear hfz82_1
    try clear hfz82_2
    try clear hfz82_3
    try clear hfz82_4
    try clear hfz85_0
    try clear hfz85_1
    try clear hfz85_2
    try clear hfz85_3
    try clear hfz85_4
    try clear hfz88_0
    try clear hfz88_1
    try clear hfz88_2
    try clear hfz88_3
    try clear hfz88_4
    try clear hfz90_0
    try clear hfz90_1
    try clear hfz90_2
    try clear hfz90_3
    try clear hfz90_4
    try clear hfz97_0
    try clear hfz97_1
    try clear hfz97_2
    try clear hfz97_3
    try clear hfz97_4
    try clear hfz99_0
    try clear hfz99_1
    try clear hfz99_2
    try clear hfz99_3
    try clear hfz99_4
    try clear hx213_0
    try clear p2
    try clear p213
    try clear q213
    obtain ⟨x6_1, x205003_1, u205003, rfl, HA, HK1, HO_205003, BK202, BK203, BK204, HB⟩ := hrel
    cases gk with
    | zero => exact absurd HA.out (by simp [tipstaffref09_Fit.l1])
    | succ k1 =>
      have H := HA.out
      clear HA
      simp only [tipstaffref09_Fit.l1] at H
      by_cases c101 : x6_1 < (l0_3.length : Int)
      · rw [if_pos c101] at H
        have c101b0 : decide (x6_1 < (l0_3.length : Int)) = true := decide_eq_true c101
        clear c101
        by_cases c102 : x6_1 < 8
        · rw [if_pos c102] at H
          have c102b0 : decide (x6_1 < 8) = true := decide_eq_true c102
          clear c102
          by_cases c103 : 0 ≤ x6_1
          · rw [if_pos c103] at H
            have c103b0 : decide (0 ≤ x6_1) = true := decide_eq_true c103
            clear c103
            replace H := Option.bind_eq_some_iff.mp H
            obtain ⟨t219, A1040, H⟩ := H
            replace H : (tipstaffref09_Fit.l1 k1 (wrap64 (x6_1 + 1)) a0_0 a0_1 l0_2 l0_3 l0_4 0 (⟨#[]⟩ : ByteArray) t219) = some (r1, r2, r3, r4, r5) := H
            have A104 := Aside0.mk A1040
            clear A1040
            have H' := Aside0.mk H
            clear H
            have hnb105 := NB202_203.out
            have hnc105 := NB203_202.out
            have hnb106 := NB202_204.out
            have hnc106 := NB204_202.out
            have hcz107_0 : wr.cell? ⟨gb202, 0, none⟩ = some (.int .u8 a0_0) := (blk_cell BK202.out 0).trans rfl
            have hcz107_1 : wr.cell? ⟨gb202, 1, none⟩ = some (.string a0_1) := (blk_cell BK202.out 1).trans rfl
            have hcz107_2 : wr.cell? ⟨gb202, 2, none⟩ = some (.slice A0_2 l0_2.length c0_2) := (blk_cell BK202.out 2).trans rfl
            have hcz107_3 : wr.cell? ⟨gb202, 3, none⟩ = some (.slice A0_3 l0_3.length c0_3) := (blk_cell BK202.out 3).trans rfl
            have hcz107_4 : wr.cell? ⟨gb202, 4, none⟩ = some (.slice A0_4 l0_4.length c0_4) := (blk_cell BK202.out 4).trans rfl
            have hfz107_0 := blk_frozen BK202.out 0
            have hfz107_1 := blk_frozen BK202.out 1
            have hfz107_2 := blk_frozen BK202.out 2
            have hfz107_3 := blk_frozen BK202.out 3
            have hfz107_4 := blk_frozen BK202.out 4
            try go_wp2
            have n0_ := Aside0.mk (Kd.R_drew HO_205003.out)
            have n1_ := Aside0.mk (blk_drew BK202.out)
            have n2_ := Aside0.mk (blk_drew BK203.out)
            have n3_ := Aside0.mk (blk_drew BK204.out)
            have n4_ := Aside0.mk (below_drew1 HB.out)
            clear HO_205003
            clear BK202
            clear BK203
            clear BK204
            clear HB
            have HO_205003 := n0_
            have BK202 := n1_
            have BK203 := n2_
            have BK204 := n3_
            have HB := n4_
            clear n0_ n1_ n2_ n3_ n4_
            have p218 : 0 ≤ (x6_1 : Int) := of_decide_eq_true (by first | (with_reducible assumption) | assumption)
            have q218 : x6_1 < (l0_3.length : Int) := of_decide_eq_true (by first | (with_reducible assumption) | assumption)
            obtain ⟨ad218, e218, hx218_0, hx218_1⟩ := at_T66 HR0_3.out x6_1 p218 q218
            have hw218_1 := hx218_1
            have hw218_0 := hx218_0
            cases e218
            replace hx218_0 := (HB.out.cell (World.block_lt_of_cell? w _ hx218_0)).trans hx218_0
            replace hx218_1 := (HB.out.cell (World.block_lt_of_cell? w _ hx218_1)).trans hx218_1
            replace p218 := eq_true p218
            replace q218 := eq_true q218
            obtain ⟨Ao109, co109, eo109⟩ := Kd.R_slice HO_205003.out
            (first | subst eo109 | (injection eo109 with f1_ f2_ f3_; have f4_ := f1_.symm; have f5_ := f3_.symm; clear f1_ f2_ f3_; subst f4_; subst f5_))
            refine start_ (n := 10) (S := fun w' => w'.cell? ⟨gb204, 0, none⟩ = some (.int .u8 0) ∧ w'.cell? ⟨gb204, 1, none⟩ = some (.string (⟨#[]⟩ : ByteArray)) ∧ w'.cell? ⟨gb204, 2, none⟩ = some (.slice none 0 0) ∧ w'.cell? ⟨gb204, 3, none⟩ = some (.slice Ao109 x205003_1.length co109) ∧ w'.cell? ⟨gb204, 4, none⟩ = some (.slice none 0 0) ∧ w'.cell? ⟨gb202, 0, none⟩ = some (.int .u8 a0_0) ∧ w'.cell? ⟨gb202, 1, none⟩ = some (.string a0_1) ∧ w'.cell? ⟨gb202, 2, none⟩ = some (.slice A0_2 l0_2.length c0_2) ∧ w'.cell? ⟨gb202, 3, none⟩ = some (.slice (some ad218) l0_3.length c0_3) ∧ w'.cell? ⟨gb202, 4, none⟩ = some (.slice A0_4 l0_4.length c0_4) ∧ w'.cell? (ad218.add ((x6_1).toNat * 2)) = some (.string ((rd_T66 l0_3 x6_1).f0)) ∧ w'.cell? ⟨(ad218.add ((x6_1).toNat * 2)).block, (ad218.add ((x6_1).toNat * 2)).off + 1, none⟩ = some (.string ((rd_T66 l0_3 x6_1).f1))) (ds := [9]) #[false, false, false, false, false, false, false, false, false, false] (by kernel_rfl) rfl rfl ⟨(blk_cell BK204.out 0).trans rfl, (blk_cell BK204.out 1).trans rfl, (blk_cell BK204.out 2).trans rfl, (blk_cell BK204.out 3).trans rfl, (blk_cell BK204.out 4).trans rfl, (blk_cell BK202.out 0).trans rfl, (blk_cell BK202.out 1).trans rfl, (blk_cell BK202.out 2).trans rfl, (blk_cell BK202.out 3).trans rfl, (blk_cell BK202.out 4).trans rfl, ((HB.out.cell (World.block_lt_of_cell? w _ hw218_0)).trans hw218_0), ((HB.out.cell (World.block_lt_of_cell? w _ hw218_1)).trans hw218_1)⟩ (fun hHeld => ?_); refine with_tabW tipstaffref09_Fit.tab19 tipstaffref09_Fit.bits19 (fun HT_ HW_ => ?_)
            generalize wr.drew = w108 at HO_205003 BK202 BK203 BK204 HB hx218_0 hx218_1 hHeld ⊢
            refine pure_ (i := 0) (N := some 66) (v := ?_) (a' := ?_) #[true, false, false, false, false, false, false, false, false, false] rfl rfl (any_of HT_.out (by kernel_rfl)) (fun _ _ _ h => h) (Or.inl ⟨by rfl, ?_⟩) ?_ ?_
            rotate_left
            · intro w'
              go_simp
              with_reducible rfl
            rotate_left
            · simp only [Act.put, List.setIfInBounds_toArray, List.set_cons_zero, List.set_cons_succ, i64_w, i32_w]
              rfl
            refine pure_ (i := 2) (N := some 68) (v := ?_) (a' := ?_) #[true, false, true, false, false, false, false, false, false, false] rfl rfl (any_of HT_.out (by kernel_rfl)) (fun _ _ _ h => h) (Or.inl ⟨by rfl, ?_⟩) ?_ ?_
            rotate_left
            · intro w'
              go_simp
              with_reducible rfl
            rotate_left
            · simp only [Act.put, List.setIfInBounds_toArray, List.set_cons_zero, List.set_cons_succ, i64_w, i32_w]
              rfl
            refine pure_ (i := 4) (N := some 70) (v := ?_) (a' := ?_) #[true, false, true, false, true, false, false, false, false, false] rfl rfl (any_of HT_.out (by kernel_rfl)) (fun _ _ _ h => h) (Or.inl ⟨by rfl, ?_⟩) ?_ ?_
            rotate_left
            · intro w'
              go_simp
              with_reducible rfl
            rotate_left
            · simp only [Act.put, List.setIfInBounds_toArray, List.set_cons_zero, List.set_cons_succ, i64_w, i32_w]
              rfl
            refine take_ (i := 1) (N := some 67) (v := ?_) (a' := ?_) #[true, true, true, false, true, false, false, false, false, false] rfl rfl (take_ofW HT_.out HW_.out (by kernel_rfl)) (fun _ _ _ h => h) (Or.inl ⟨by rfl, ?_⟩) hHeld ?_ ?_
            rotate_left
            · rintro w' ⟨s0, s1, s2, s3, s4, s5, s6, s7, s8, s9, s10, s11⟩
              go_simp
              with_reducible rfl
            rotate_left
            · simp only [Act.put, List.setIfInBounds_toArray, List.set_cons_zero, List.set_cons_succ, i64_w, i32_w]
              rfl
            refine take_ (i := 3) (N := some 69) (v := ?_) (a' := ?_) #[true, true, true, true, true, false, false, false, false, false] rfl rfl (take_ofW HT_.out HW_.out (by kernel_rfl)) (fun _ _ _ h => h) (Or.inl ⟨by rfl, ?_⟩) hHeld ?_ ?_
            rotate_left
            · rintro w' ⟨s0, s1, s2, s3, s4, s5, s6, s7, s8, s9, s10, s11⟩
              go_simp
              with_reducible rfl
            rotate_left
            · simp only [Act.put, List.setIfInBounds_toArray, List.set_cons_zero, List.set_cons_succ, i64_w, i32_w]
              rfl
            refine pure_ (i := 5) (N := some 71) (v := ?_) (a' := ?_) #[true, true, true, true, true, true, false, false, false, false] rfl rfl (any_of HT_.out (by kernel_rfl)) (fun _ _ _ h => h) (Or.inl ⟨by rfl, ?_⟩) ?_ ?_
            rotate_left
            · intro w'
              go_simp
              with_reducible rfl
            rotate_left
            · simp only [Act.put, List.setIfInBounds_toArray, List.set_cons_zero, List.set_cons_succ, i64_w, i32_w]
              rfl
            refine take_ (i := 6) (N := some 72) (v := ?_) (a' := ?_) #[true, true, true, true, true, true, true, false, false, false] rfl rfl (take_ofW HT_.out HW_.out (by kernel_rfl)) (fun _ _ _ h => h) (Or.inl ⟨by rfl, ?_⟩) hHeld ?_ ?_
            rotate_left
            · rintro w' ⟨s0, s1, s2, s3, s4, s5, s6, s7, s8, s9, s10, s11⟩
              go_simp
              with_reducible rfl
            rotate_left
            · simp only [Act.put, List.setIfInBounds_toArray, List.set_cons_zero, List.set_cons_succ, i64_w, i32_w]
              rfl
            refine one_ (i := 7) (N := some 73) #[true, true, true, true, true, true, true, true, false, false] rfl rfl (one_of HT_.out (by kernel_rfl)) (by decide) (fun K hK => ?_)
            refine goes_ Try.func36 (by kernel_rfl) rfl #[.slice Ao109 x205003_1.length co109, .agg #[.string ((rd_T66 l0_3 x6_1).f0), .string ((rd_T66 l0_3 x6_1).f1)]] (by rfl) rfl rfl (by (try simp only [List.map_toArray, List.map_cons, List.map_nil]); first | done | rfl | (simp only [List.length_drop, List.length_take]; rfl)) ?_
            with_reducible refine (tipstaffref09_PutPair.calls k1 _ _ x205003_1 ((rd_T66 l0_3 x6_1).f0) ((rd_T66 l0_3 x6_1).f1) t219 _ ?side1 ?side2 A104.out).mono ?_
            (case side1 => repeat (first | exact (Kd.R_reads' HO_205003.out).2.2 | (with_reducible refine Kd.C_alloc ?_ _) | (with_reducible refine Kd.C_drewN ?_ _) | (with_reducible refine Kd.C_drew ?_)))
            (case side2 => exact (Kd.R_reads' HO_205003.out).2.1)
            rintro e w110 ⟨v220, rfl, ho0, hb⟩
            refine ⟨_, rfl, ?_⟩
            have n0_ := Aside0.mk (Kd.R_elder' (by (with_reducible repeat (first | apply Kd.R_alloc | apply Kd.R_drewN | apply Kd.R_drew)); exact HO_205003.out) (Kd.R_base ho0) hb)
            have n1_ := Aside0.mk (Kd.R_lower (Kd.R_new' ho0 (Kd.R_lt (by (with_reducible repeat (first | apply Kd.R_alloc | apply Kd.R_drewN | apply Kd.R_drew)); exact HO_205003.out))) (below_size (by repeat (first | (with_reducible first | exact HB.out | apply below_alloc | apply pw_below_drewN | apply below_drew1 | refine below_set ?_ GE202.out | refine below_set ?_ GE203.out | refine below_set ?_ GE204.out) | exact HB.out))))
            have n2_ := Aside0.mk (blk_below (g := gb202) (o := .cells #[.int .u8 a0_0, .string a0_1, .slice A0_2 l0_2.length c0_2, .slice (some ad218) l0_3.length c0_3, .slice A0_4 l0_4.length c0_4] 26 (0, 0)) (by (with_reducible repeat (first | refine blk_drewN ?_ _ | refine blk_drew ?_ | refine blk_alloc ?_ _)); exact BK202.out) hb)
            have n3_ := Aside0.mk (blk_below (g := gb203) (o := .cells #[.int .u8 0, .string (⟨#[]⟩ : ByteArray), .slice none 0 0, .slice none 0 0, .slice none 0 0] 26 (0, 0)) (by (with_reducible repeat (first | refine blk_drewN ?_ _ | refine blk_drew ?_ | refine blk_alloc ?_ _)); exact BK203.out) hb)
            have n4_ := Aside0.mk (blk_below (g := gb204) (o := .cells #[.int .u8 0, .string (⟨#[]⟩ : ByteArray), .slice none 0 0, .slice Ao109 x205003_1.length co109, .slice none 0 0] 26 (0, 0)) (by (with_reducible repeat (first | refine blk_drewN ?_ _ | refine blk_drew ?_ | refine blk_alloc ?_ _)); exact BK204.out) hb)
            have n5_ := Aside0.mk (below_step (by repeat (first | (with_reducible first | exact HB.out | apply below_alloc | apply pw_below_drewN | apply below_drew1 | refine below_set ?_ GE202.out | refine below_set ?_ GE203.out | refine below_set ?_ GE204.out) | exact HB.out)) hb)
            clear HO_205003
            clear BK202
            clear BK203
            clear BK204
            clear HB
            have HO_205003 := n0_
            have HO221 := n1_
            have BK202 := n2_
            have BK203 := n3_
            have BK204 := n4_
            have HB := n5_
            clear n0_ n1_ n2_ n3_ n4_ n5_
            (try clear hb)
            (try clear hb2)
            (try clear hk)
            (try clear hi)
            (try clear ho0)
            obtain ⟨Ao111, co111, eo111⟩ := Kd.R_slice HO221.out
            (first | subst eo111 | (injection eo111 with f1_ f2_ f3_; have f4_ := f1_.symm; have f5_ := f3_.symm; clear f1_ f2_ f3_; subst f4_; subst f5_))
            refine hK.out _ _ ⟨(blk_cell BK204.out 0).trans rfl, (blk_cell BK204.out 1).trans rfl, (blk_cell BK204.out 2).trans rfl, (blk_cell BK204.out 3).trans rfl, (blk_cell BK204.out 4).trans rfl, (blk_cell BK202.out 0).trans rfl, (blk_cell BK202.out 1).trans rfl, (blk_cell BK202.out 2).trans rfl, (blk_cell BK202.out 3).trans rfl, (blk_cell BK202.out 4).trans rfl, ((HB.out.cell (World.block_lt_of_cell? w _ hw218_0)).trans hw218_0), ((HB.out.cell (World.block_lt_of_cell? w _ hw218_1)).trans hw218_1)⟩ (fun hHeld => ?_)
            clear hK K
            refine norm_ (a' := ?_) ?_ ?_
            rotate_left
            · show Act.put _ (some 73) _ = _
              simp only [Act.put, List.setIfInBounds_toArray, List.set_cons_zero, List.set_cons_succ, i64_w, i32_w]
              rfl
            refine pure_ (i := 8) (N := some 74) (v := ?_) (a' := ?_) #[true, true, true, true, true, true, true, true, true, false] rfl rfl (any_of HT_.out (by kernel_rfl)) (fun _ _ _ h => h) (Or.inl ⟨by rfl, ?_⟩) ?_ ?_
            rotate_left
            · intro w'
              go_simp
              with_reducible rfl
            rotate_left
            · simp only [Act.put, List.setIfInBounds_toArray, List.set_cons_zero, List.set_cons_succ, i64_w, i32_w]
              rfl
            refine last_ (i := 9) (N := none) #[true, true, true, true, true, true, true, true, true, true] rfl rfl (one_of HT_.out (by kernel_rfl)) (by decide) (fun K hK => ?_)
            have hs112 : w110.cell? ⟨gb204, 3, none⟩ = some (.slice Ao109 x205003_1.length co109) := (blk_cell BK204.out 3).trans rfl
            have hfs112 := blk_frozen BK204.out 3
            have hns112_0 := NB202_204.out
            have hns112_1 := NB203_204.out
            have hms112_0 := NB204_202.out
            have hms112_1 := NB204_203.out
            refine skip_ (w1 := ?_) (by rfl) rfl ?_ ?_
            rotate_left
            · go_simp
              rfl
            refine hK.out _ _ ?_
            clear hK K
            refine done_ (done_of HT_.out (by kernel_rfl)) ?_
            try go_wp2
            go_roundg k1
            case measure => have := HK1.out; omega
            case rel => exact ⟨(wrap64 (x6_1 + 1)), (t219), (.slice Ao111 t219.length co111), (by first | rfl | (simp; done) | (simp [*]; done)), H', ⟨by have := HK1.out; omega⟩, ⟨by (with_reducible repeat (first | apply Kd.R_alloc | apply Kd.R_drewN | apply Kd.R_drew)); exact Kd.R_mono (Kd.R_far (p := ⟨gb204, 3, none⟩) (Kd.R_types HO221.out BK204.out (by decide)) (fun _ hk => hk.2) (.slice Ao111 t219.length co111)) (fun _ hk => trivial)⟩, ⟨by (with_reducible repeat (first | refine blk_drewN ?_ _ | refine blk_drew ?_ | refine blk_alloc ?_ _)); refine blk_far ?_ NB202_204.out _; (with_reducible repeat (first | refine blk_drewN ?_ _ | refine blk_drew ?_ | refine blk_alloc ?_ _)); exact BK202.out⟩, ⟨by (with_reducible repeat (first | refine blk_drewN ?_ _ | refine blk_drew ?_ | refine blk_alloc ?_ _)); refine blk_far ?_ NB203_204.out _; (with_reducible repeat (first | refine blk_drewN ?_ _ | refine blk_drew ?_ | refine blk_alloc ?_ _)); exact BK203.out⟩, ⟨by (with_reducible repeat (first | refine blk_drewN ?_ _ | refine blk_drew ?_ | refine blk_alloc ?_ _)); refine blk_put (cs := #[.int .u8 0, .string (⟨#[]⟩ : ByteArray), .slice none 0 0, .slice Ao109 x205003_1.length co109, .slice none 0 0]) ?_ 3 _ rfl; (with_reducible repeat (first | refine blk_drewN ?_ _ | refine blk_drew ?_ | refine blk_alloc ?_ _)); exact BK204.out⟩, ⟨by repeat (first | (with_reducible first | exact HB.out | apply below_alloc | apply pw_below_drewN | apply below_drew1 | refine below_set ?_ GE202.out | refine below_set ?_ GE203.out | refine below_set ?_ GE204.out) | exact HB.out)⟩⟩
          · rw [if_neg c103] at H
            exact absurd H (by simp)
        · rw [if_neg c102] at H
          have c102b0 : decide (x6_1 < 8) = false := decide_eq_false c102
          clear c102
          replace H := Option.bind_eq_some_iff.mp H
          obtain ⟨t222, A1130, H⟩ := H
          replace H : (if t222 = 0 then (some (0, (⟨#[]⟩ : ByteArray), ([] : List ByteArray), ([] : List (S66)), ([] : List (S69)))) else (some (3, (⟨#[]⟩ : ByteArray), ([] : List ByteArray), x205003_1, ([] : List (S69))))) = some (r1, r2, r3, r4, r5) := H
          have A113 := Aside0.mk A1130
          clear A1130
          by_cases c114 : t222 = 0
          · rw [if_pos c114] at H
            have c114b0 : (t222 == 0) = true := beq_iff_eq.mpr c114
            have c114b1 : (t222 != 0) = false := bne_eq_false_iff_eq.mpr c114
            clear c114
            simp only [Option.some.injEq, Prod.mk.injEq] at H
            obtain ⟨rfl, rfl, rfl, rfl, rfl⟩ := H
            have hnb115 := NB202_203.out
            have hnc115 := NB203_202.out
            have hnb116 := NB202_204.out
            have hnc116 := NB204_202.out
            have hcz117_0 : wr.cell? ⟨gb202, 0, none⟩ = some (.int .u8 a0_0) := (blk_cell BK202.out 0).trans rfl
            have hcz117_1 : wr.cell? ⟨gb202, 1, none⟩ = some (.string a0_1) := (blk_cell BK202.out 1).trans rfl
            have hcz117_2 : wr.cell? ⟨gb202, 2, none⟩ = some (.slice A0_2 l0_2.length c0_2) := (blk_cell BK202.out 2).trans rfl
            have hcz117_3 : wr.cell? ⟨gb202, 3, none⟩ = some (.slice A0_3 l0_3.length c0_3) := (blk_cell BK202.out 3).trans rfl
            have hcz117_4 : wr.cell? ⟨gb202, 4, none⟩ = some (.slice A0_4 l0_4.length c0_4) := (blk_cell BK202.out 4).trans rfl
            have hfz117_0 := blk_frozen BK202.out 0
            have hfz117_1 := blk_frozen BK202.out 1
            have hfz117_2 := blk_frozen BK202.out 2
            have hfz117_3 := blk_frozen BK202.out 3
            have hfz117_4 := blk_frozen BK202.out 4
            have hnb118 := NB204_203.out
            have hnc118 := NB203_204.out
            have hcz119_0 : wr.cell? ⟨gb204, 0, none⟩ = some (.int .u8 0) := (blk_cell BK204.out 0).trans rfl
            have hcz119_1 : wr.cell? ⟨gb204, 1, none⟩ = some (.string (⟨#[]⟩ : ByteArray)) := (blk_cell BK204.out 1).trans rfl
            have hcz119_2 : wr.cell? ⟨gb204, 2, none⟩ = some (.slice none 0 0) := (blk_cell BK204.out 2).trans rfl
            have hcz119_3 : wr.cell? ⟨gb204, 3, none⟩ = some (u205003) := (blk_cell BK204.out 3).trans rfl
            have hcz119_4 : wr.cell? ⟨gb204, 4, none⟩ = some (.slice none 0 0) := (blk_cell BK204.out 4).trans rfl
            have hfz119_0 := blk_frozen BK204.out 0
            have hfz119_1 := blk_frozen BK204.out 1
            have hfz119_2 := blk_frozen BK204.out 2
            have hfz119_3 := blk_frozen BK204.out 3
            have hfz119_4 := blk_frozen BK204.out 4
            obtain ⟨Ao120, co120, eo120⟩ := Kd.R_slice HO_205003.out
            subst eo120
            go_wp2_with (first | ((with_reducible refine gate_callee (f := 38) rfl ?_); refine goesL_ (some 100) rfl rfl Try.func38 (by kernel_rfl) rfl #[.agg #[.int .u8 3, .string (⟨#[]⟩ : ByteArray), .slice none 0 0, .slice Ao120 x205003_1.length co120, .slice none 0 0]] rfl (by (try simp only [List.map_toArray, List.map_cons, List.map_nil]); first | done | rfl | (simp only [List.length_drop, List.length_take]; rfl)) ?_; (refine (tipstaffref09_Size.calls k1 3 (⟨#[]⟩ : ByteArray) _ _ ([] : List ByteArray) _ _ x205003_1 _ _ ([] : List (S69)) t222 _ ?side1 ?side2 ?side3 ?side4 ?side5 ?side6 A113.out).mono ?_); (case side1 => exact Kd.C_nil _ _); (case side2 => exact Nat.le_refl _); (case side3 => refine (Kd.R_reads' (e := 66) (base := w.heap.size) (ok := fun k_ => True) (n := x205003_1.length) (c := co120) ?_).2.2; exact (by (with_reducible repeat (first | apply Kd.R_alloc | apply Kd.R_drewN | apply Kd.R_drew)); exact (Kd.R_mono (Kd.R_far (p := ⟨gb204, 0, none⟩) (Kd.R_types HO_205003.out BK204.out (by decide)) (fun _ hk => hk.2) (.int .u8 3)) (fun _ h_ => h_.1)))); (case side4 => exact (Kd.R_reads' HO_205003.out).2.1); (case side5 => exact Kd.C_nil _ _); (case side6 => exact Nat.le_refl _); rintro e w121 ⟨rfl, hb⟩; refine ⟨_, rfl, ?_⟩; have n0_ := Aside0.mk (Kd.R_below (by (with_reducible repeat (first | apply Kd.R_alloc | apply Kd.R_drewN | apply Kd.R_drew)); exact (Kd.R_mono (Kd.R_far (p := ⟨gb204, 0, none⟩) (Kd.R_types HO_205003.out BK204.out (by decide)) (fun _ hk => hk.2) (.int .u8 3)) (fun _ h_ => h_.1))) hb); have n1_ := Aside0.mk (blk_below (g := gb202) (o := .cells #[.int .u8 a0_0, .string a0_1, .slice A0_2 l0_2.length c0_2, .slice A0_3 l0_3.length c0_3, .slice A0_4 l0_4.length c0_4] 26 (0, 0)) (by (with_reducible repeat (first | refine blk_drewN ?_ _ | refine blk_drew ?_ | refine blk_alloc ?_ _)); refine blk_far ?_ NB202_204.out _; (with_reducible repeat (first | refine blk_drewN ?_ _ | refine blk_drew ?_ | refine blk_alloc ?_ _)); exact BK202.out) hb); have n2_ := Aside0.mk (blk_below (g := gb203) (o := .cells #[.int .u8 0, .string (⟨#[]⟩ : ByteArray), .slice none 0 0, .slice none 0 0, .slice none 0 0] 26 (0, 0)) (by (with_reducible repeat (first | refine blk_drewN ?_ _ | refine blk_drew ?_ | refine blk_alloc ?_ _)); refine blk_far ?_ NB203_204.out _; (with_reducible repeat (first | refine blk_drewN ?_ _ | refine blk_drew ?_ | refine blk_alloc ?_ _)); exact BK203.out) hb); have n3_ := Aside0.mk (blk_below (g := gb204) (o := .cells #[.int .u8 3, .string (⟨#[]⟩ : ByteArray), .slice none 0 0, .slice Ao120 x205003_1.length co120, .slice none 0 0] 26 (0, 0)) (by (with_reducible repeat (first | refine blk_drewN ?_ _ | refine blk_drew ?_ | refine blk_alloc ?_ _)); refine blk_put (cs := #[.int .u8 0, .string (⟨#[]⟩ : ByteArray), .slice none 0 0, .slice Ao120 x205003_1.length co120, .slice none 0 0]) ?_ 0 _ rfl; (with_reducible repeat (first | refine blk_drewN ?_ _ | refine blk_drew ?_ | refine blk_alloc ?_ _)); exact BK204.out) hb); have n4_ := Aside0.mk (below_step (by repeat (first | (with_reducible first | exact HB.out | apply below_alloc | apply pw_below_drewN | apply below_drew1 | refine below_set ?_ GE202.out | refine below_set ?_ GE203.out | refine below_set ?_ GE204.out) | exact HB.out)) hb); clear HO_205003; clear BK202; clear BK203; clear BK204; clear HB; have HO_205003 := n0_; have BK202 := n1_; have BK203 := n2_; have BK204 := n3_; have HB := n4_; clear n0_ n1_ n2_ n3_ n4_; (try clear hb); (try clear hb2); (try clear hk); (try clear hi); have hcz122_0 : w121.cell? ⟨gb203, 0, none⟩ = some (.int .u8 0) := (blk_cell BK203.out 0).trans rfl; have hcz122_1 : w121.cell? ⟨gb203, 1, none⟩ = some (.string (⟨#[]⟩ : ByteArray)) := (blk_cell BK203.out 1).trans rfl; have hcz122_2 : w121.cell? ⟨gb203, 2, none⟩ = some (.slice none 0 0) := (blk_cell BK203.out 2).trans rfl; have hcz122_3 : w121.cell? ⟨gb203, 3, none⟩ = some (.slice none 0 0) := (blk_cell BK203.out 3).trans rfl; have hcz122_4 : w121.cell? ⟨gb203, 4, none⟩ = some (.slice none 0 0) := (blk_cell BK203.out 4).trans rfl; have hfz122_0 := blk_frozen BK203.out 0; have hfz122_1 := blk_frozen BK203.out 1; have hfz122_2 := blk_frozen BK203.out 2; have hfz122_3 := blk_frozen BK203.out 3; have hfz122_4 := blk_frozen BK203.out 4))
            refine bodyPost_ret (results_cell_row rfl _ _ gb203 26 #[.int .u8 0, .string (⟨#[]⟩ : ByteArray), .slice none 0 0, .slice none 0 0, .slice none 0 0] (0, 0) _ rfl (by (with_reducible repeat (first | refine blk_drewN ?_ _ | refine blk_drew ?_ | refine blk_alloc ?_ _)); refine blk_put (cs := #[.int .u8 0, .string (⟨#[]⟩ : ByteArray), .slice none 0 0, .slice none 0 0, .slice none 0 0]) ?_ 4 _ rfl; (with_reducible repeat (first | refine blk_drewN ?_ _ | refine blk_drew ?_ | refine blk_alloc ?_ _)); refine blk_put (cs := #[.int .u8 0, .string (⟨#[]⟩ : ByteArray), .slice none 0 0, .slice none 0 0, .slice none 0 0]) ?_ 3 _ rfl; (with_reducible repeat (first | refine blk_drewN ?_ _ | refine blk_drew ?_ | refine blk_alloc ?_ _)); refine blk_put (cs := #[.int .u8 0, .string (⟨#[]⟩ : ByteArray), .slice none 0 0, .slice none 0 0, .slice none 0 0]) ?_ 2 _ rfl; (with_reducible repeat (first | refine blk_drewN ?_ _ | refine blk_drew ?_ | refine blk_alloc ?_ _)); refine blk_put (cs := #[.int .u8 0, .string (⟨#[]⟩ : ByteArray), .slice none 0 0, .slice none 0 0, .slice none 0 0]) ?_ 1 _ rfl; (with_reducible repeat (first | refine blk_drewN ?_ _ | refine blk_drew ?_ | refine blk_alloc ?_ _)); refine blk_put (cs := #[.int .u8 0, .string (⟨#[]⟩ : ByteArray), .slice none 0 0, .slice none 0 0, .slice none 0 0]) ?_ 0 _ rfl; (with_reducible repeat (first | refine blk_drewN ?_ _ | refine blk_drew ?_ | refine blk_alloc ?_ _)); exact BK203.out) Try.underlying26 rfl (by kernel_rfl)) rfl ?_
            exact ⟨_, _, _, by first | rfl | (simp [errW_none, errW_some] <;> rfl) | (simp only [← hji2]; first | rfl | (simp [errW_none, errW_some] <;> rfl)) | (simp [*, errW_none, errW_some] <;> rfl), by first | exact Kd.R_nil _ _ _ _ _ | exact Kd.N_nil _ _ _ _ _ | exact Kd.V_nil _ _ _ _ _ | exact Kd.Q_nil _ _ _ _ _ | exact Kd.S_nil _ _ _ _ _, by first | exact Kd.R_nil _ _ _ _ _ | exact Kd.N_nil _ _ _ _ _ | exact Kd.V_nil _ _ _ _ _ | exact Kd.Q_nil _ _ _ _ _ | exact Kd.S_nil _ _ _ _ _, by first | exact Kd.R_nil _ _ _ _ _ | exact Kd.N_nil _ _ _ _ _ | exact Kd.V_nil _ _ _ _ _ | exact Kd.Q_nil _ _ _ _ _ | exact Kd.S_nil _ _ _ _ _, by repeat (first | (with_reducible first | exact HB.out | apply below_alloc | apply pw_below_drewN | apply below_drew1 | refine below_set ?_ GE202.out | refine below_set ?_ GE203.out | refine below_set ?_ GE204.out) | exact HB.out)⟩
          · rw [if_neg c114] at H
            have c114b0 : (t222 == 0) = false := beq_eq_false_iff_ne.mpr c114
            have c114b1 : (t222 != 0) = true := bne_iff_ne.mpr c114
            simp only [Option.some.injEq, Prod.mk.injEq] at H
            obtain ⟨rfl, rfl, rfl, rfl, rfl⟩ := H
            have hnb123 := NB202_203.out
            have hnc123 := NB203_202.out
            have hnb124 := NB202_204.out
            have hnc124 := NB204_202.out
            have hcz125_0 : wr.cell? ⟨gb202, 0, none⟩ = some (.int .u8 a0_0) := (blk_cell BK202.out 0).trans rfl
            have hcz125_1 : wr.cell? ⟨gb202, 1, none⟩ = some (.string a0_1) := (blk_cell BK202.out 1).trans rfl
            have hcz125_2 : wr.cell? ⟨gb202, 2, none⟩ = some (.slice A0_2 l0_2.length c0_2) := (blk_cell BK202.out 2).trans rfl
            have hcz125_3 : wr.cell? ⟨gb202, 3, none⟩ = some (.slice A0_3 l0_3.length c0_3) := (blk_cell BK202.out 3).trans rfl
            have hcz125_4 : wr.cell? ⟨gb202, 4, none⟩ = some (.slice A0_4 l0_4.length c0_4) := (blk_cell BK202.out 4).trans rfl
            have hfz125_0 := blk_frozen BK202.out 0
            have hfz125_1 := blk_frozen BK202.out 1
            have hfz125_2 := blk_frozen BK202.out 2
            have hfz125_3 := blk_frozen BK202.out 3
            have hfz125_4 := blk_frozen BK202.out 4
            have hnb126 := NB204_203.out
            have hnc126 := NB203_204.out
            have hcz127_0 : wr.cell? ⟨gb204, 0, none⟩ = some (.int .u8 0) := (blk_cell BK204.out 0).trans rfl
            have hcz127_1 : wr.cell? ⟨gb204, 1, none⟩ = some (.string (⟨#[]⟩ : ByteArray)) := (blk_cell BK204.out 1).trans rfl
            have hcz127_2 : wr.cell? ⟨gb204, 2, none⟩ = some (.slice none 0 0) := (blk_cell BK204.out 2).trans rfl
            have hcz127_3 : wr.cell? ⟨gb204, 3, none⟩ = some (u205003) := (blk_cell BK204.out 3).trans rfl
            have hcz127_4 : wr.cell? ⟨gb204, 4, none⟩ = some (.slice none 0 0) := (blk_cell BK204.out 4).trans rfl
            have hfz127_0 := blk_frozen BK204.out 0
            have hfz127_1 := blk_frozen BK204.out 1
            have hfz127_2 := blk_frozen BK204.out 2
            have hfz127_3 := blk_frozen BK204.out 3
            have hfz127_4 := blk_frozen BK204.out 4
            obtain ⟨Ao128, co128, eo128⟩ := Kd.R_slice HO_205003.out
            subst eo128
            go_wp2_with (first | ((with_reducible refine gate_callee (f := 38) rfl ?_); refine goesL_ (some 100) rfl rfl Try.func38 (by kernel_rfl) rfl #[.agg #[.int .u8 3, .string (⟨#[]⟩ : ByteArray), .slice none 0 0, .slice Ao128 x205003_1.length co128, .slice none 0 0]] rfl (by (try simp only [List.map_toArray, List.map_cons, List.map_nil]); first | done | rfl | (simp only [List.length_drop, List.length_take]; rfl)) ?_; (refine (tipstaffref09_Size.calls k1 3 (⟨#[]⟩ : ByteArray) _ _ ([] : List ByteArray) _ _ x205003_1 _ _ ([] : List (S69)) t222 _ ?side1 ?side2 ?side3 ?side4 ?side5 ?side6 A113.out).mono ?_); (case side1 => exact Kd.C_nil _ _); (case side2 => exact Nat.le_refl _); (case side3 => refine (Kd.R_reads' (e := 66) (base := w.heap.size) (ok := fun k_ => True) (n := x205003_1.length) (c := co128) ?_).2.2; exact (by (with_reducible repeat (first | apply Kd.R_alloc | apply Kd.R_drewN | apply Kd.R_drew)); exact (Kd.R_mono (Kd.R_far (p := ⟨gb204, 0, none⟩) (Kd.R_types HO_205003.out BK204.out (by decide)) (fun _ hk => hk.2) (.int .u8 3)) (fun _ h_ => h_.1)))); (case side4 => exact (Kd.R_reads' HO_205003.out).2.1); (case side5 => exact Kd.C_nil _ _); (case side6 => exact Nat.le_refl _); rintro e w129 ⟨rfl, hb⟩; refine ⟨_, rfl, ?_⟩; have n0_ := Aside0.mk (Kd.R_below (by (with_reducible repeat (first | apply Kd.R_alloc | apply Kd.R_drewN | apply Kd.R_drew)); exact (Kd.R_mono (Kd.R_far (p := ⟨gb204, 0, none⟩) (Kd.R_types HO_205003.out BK204.out (by decide)) (fun _ hk => hk.2) (.int .u8 3)) (fun _ h_ => h_.1))) hb); have n1_ := Aside0.mk (blk_below (g := gb202) (o := .cells #[.int .u8 a0_0, .string a0_1, .slice A0_2 l0_2.length c0_2, .slice A0_3 l0_3.length c0_3, .slice A0_4 l0_4.length c0_4] 26 (0, 0)) (by (with_reducible repeat (first | refine blk_drewN ?_ _ | refine blk_drew ?_ | refine blk_alloc ?_ _)); refine blk_far ?_ NB202_204.out _; (with_reducible repeat (first | refine blk_drewN ?_ _ | refine blk_drew ?_ | refine blk_alloc ?_ _)); exact BK202.out) hb); have n2_ := Aside0.mk (blk_below (g := gb203) (o := .cells #[.int .u8 0, .string (⟨#[]⟩ : ByteArray), .slice none 0 0, .slice none 0 0, .slice none 0 0] 26 (0, 0)) (by (with_reducible repeat (first | refine blk_drewN ?_ _ | refine blk_drew ?_ | refine blk_alloc ?_ _)); refine blk_far ?_ NB203_204.out _; (with_reducible repeat (first | refine blk_drewN ?_ _ | refine blk_drew ?_ | refine blk_alloc ?_ _)); exact BK203.out) hb); have n3_ := Aside0.mk (blk_below (g := gb204) (o := .cells #[.int .u8 3, .string (⟨#[]⟩ : ByteArray), .slice none 0 0, .slice Ao128 x205003_1.length co128, .slice none 0 0] 26 (0, 0)) (by (with_reducible repeat (first | refine blk_drewN ?_ _ | refine blk_drew ?_ | refine blk_alloc ?_ _)); refine blk_put (cs := #[.int .u8 0, .string (⟨#[]⟩ : ByteArray), .slice none 0 0, .slice Ao128 x205003_1.length co128, .slice none 0 0]) ?_ 0 _ rfl; (with_reducible repeat (first | refine blk_drewN ?_ _ | refine blk_drew ?_ | refine blk_alloc ?_ _)); exact BK204.out) hb); have n4_ := Aside0.mk (below_step (by repeat (first | (with_reducible first | exact HB.out | apply below_alloc | apply pw_below_drewN | apply below_drew1 | refine below_set ?_ GE202.out | refine below_set ?_ GE203.out | refine below_set ?_ GE204.out) | exact HB.out)) hb); clear HO_205003; clear BK202; clear BK203; clear BK204; clear HB; have HO_205003 := n0_; have BK202 := n1_; have BK203 := n2_; have BK204 := n3_; have HB := n4_; clear n0_ n1_ n2_ n3_ n4_; (try clear hb); (try clear hb2); (try clear hk); (try clear hi); have hcz130_0 : w129.cell? ⟨gb204, 0, none⟩ = some (.int .u8 3) := (blk_cell BK204.out 0).trans rfl; have hcz130_1 : w129.cell? ⟨gb204, 1, none⟩ = some (.string (⟨#[]⟩ : ByteArray)) := (blk_cell BK204.out 1).trans rfl; have hcz130_2 : w129.cell? ⟨gb204, 2, none⟩ = some (.slice none 0 0) := (blk_cell BK204.out 2).trans rfl; have hcz130_3 : w129.cell? ⟨gb204, 3, none⟩ = some (.slice Ao128 x205003_1.length co128) := (blk_cell BK204.out 3).trans rfl; have hcz130_4 : w129.cell? ⟨gb204, 4, none⟩ = some (.slice none 0 0) := (blk_cell BK204.out 4).trans rfl; have hfz130_0 := blk_frozen BK204.out 0; have hfz130_1 := blk_frozen BK204.out 1; have hfz130_2 := blk_frozen BK204.out 2; have hfz130_3 := blk_frozen BK204.out 3; have hfz130_4 := blk_frozen BK204.out 4; have hcz131_0 : w129.cell? ⟨gb203, 0, none⟩ = some (.int .u8 0) := (blk_cell BK203.out 0).trans rfl; have hcz131_1 : w129.cell? ⟨gb203, 1, none⟩ = some (.string (⟨#[]⟩ : ByteArray)) := (blk_cell BK203.out 1).trans rfl; have hcz131_2 : w129.cell? ⟨gb203, 2, none⟩ = some (.slice none 0 0) := (blk_cell BK203.out 2).trans rfl; have hcz131_3 : w129.cell? ⟨gb203, 3, none⟩ = some (.slice none 0 0) := (blk_cell BK203.out 3).trans rfl; have hcz131_4 : w129.cell? ⟨gb203, 4, none⟩ = some (.slice none 0 0) := (blk_cell BK203.out 4).trans rfl; have hfz131_0 := blk_frozen BK203.out 0; have hfz131_1 := blk_frozen BK203.out 1; have hfz131_2 := blk_frozen BK203.out 2; have hfz131_3 := blk_frozen BK203.out 3; have hfz131_4 := blk_frozen BK203.out 4))
            refine bodyPost_ret (results_cell_row rfl _ _ gb203 26 #[.int .u8 3, .string (⟨#[]⟩ : ByteArray), .slice none 0 0, .slice Ao128 x205003_1.length co128, .slice none 0 0] (0, 0) _ rfl (by (with_reducible repeat (first | refine blk_drewN ?_ _ | refine blk_drew ?_ | refine blk_alloc ?_ _)); refine blk_put (cs := #[.int .u8 3, .string (⟨#[]⟩ : ByteArray), .slice none 0 0, .slice Ao128 x205003_1.length co128, .slice none 0 0]) ?_ 4 _ rfl; (with_reducible repeat (first | refine blk_drewN ?_ _ | refine blk_drew ?_ | refine blk_alloc ?_ _)); refine blk_put (cs := #[.int .u8 3, .string (⟨#[]⟩ : ByteArray), .slice none 0 0, .slice none 0 0, .slice none 0 0]) ?_ 3 _ rfl; (with_reducible repeat (first | refine blk_drewN ?_ _ | refine blk_drew ?_ | refine blk_alloc ?_ _)); refine blk_put (cs := #[.int .u8 3, .string (⟨#[]⟩ : ByteArray), .slice none 0 0, .slice none 0 0, .slice none 0 0]) ?_ 2 _ rfl; (with_reducible repeat (first | refine blk_drewN ?_ _ | refine blk_drew ?_ | refine blk_alloc ?_ _)); refine blk_put (cs := #[.int .u8 3, .string (⟨#[]⟩ : ByteArray), .slice none 0 0, .slice none 0 0, .slice none 0 0]) ?_ 1 _ rfl; (with_reducible repeat (first | refine blk_drewN ?_ _ | refine blk_drew ?_ | refine blk_alloc ?_ _)); refine blk_put (cs := #[.int .u8 0, .string (⟨#[]⟩ : ByteArray), .slice none 0 0, .slice none 0 0, .slice none 0 0]) ?_ 0 _ rfl; (with_reducible repeat (first | refine blk_drewN ?_ _ | refine blk_drew ?_ | refine blk_alloc ?_ _)); exact BK203.out) Try.underlying26 rfl (by kernel_rfl)) rfl ?_
            exact ⟨_, _, _, by first | rfl | (simp [errW_none, errW_some] <;> rfl) | (simp only [← hji2]; first | rfl | (simp [errW_none, errW_some] <;> rfl)) | (simp [*, errW_none, errW_some] <;> rfl), by first | exact Kd.R_nil _ _ _ _ _ | exact Kd.N_nil _ _ _ _ _ | exact Kd.V_nil _ _ _ _ _ | exact Kd.Q_nil _ _ _ _ _ | exact Kd.S_nil _ _ _ _ _, by (with_reducible repeat (first | apply Kd.R_alloc | apply Kd.R_drewN | apply Kd.R_drew)); exact Kd.R_mono (Kd.R_far (p := ⟨gb203, 4, none⟩) (Kd.R_far (p := ⟨gb203, 3, none⟩) (Kd.R_far (p := ⟨gb203, 2, none⟩) (Kd.R_far (p := ⟨gb203, 1, none⟩) (Kd.R_far (p := ⟨gb203, 0, none⟩) (Kd.R_types HO_205003.out BK203.out (by decide)) (fun _ hk => hk.2) (.int .u8 3)) (fun _ hk => hk.2) (.string (⟨#[]⟩ : ByteArray))) (fun _ hk => hk.2) (.slice none 0 0)) (fun _ hk => hk.2) (.slice Ao128 x205003_1.length co128)) (fun _ hk => hk.2) (.slice none 0 0)) (fun _ hk => trivial), by first | exact Kd.R_nil _ _ _ _ _ | exact Kd.N_nil _ _ _ _ _ | exact Kd.V_nil _ _ _ _ _ | exact Kd.Q_nil _ _ _ _ _ | exact Kd.S_nil _ _ _ _ _, by repeat (first | (with_reducible first | exact HB.out | apply below_alloc | apply pw_below_drewN | apply below_drew1 | refine below_set ?_ GE202.out | refine below_set ?_ GE203.out | refine below_set ?_ GE204.out) | exact HB.out)⟩
      · rw [if_neg c101] at H
        have c101b0 : decide (x6_1 < (l0_3.length : Int)) = false := decide_eq_false c101
        clear c101
        replace H := Option.bind_eq_some_iff.mp H
        obtain ⟨t223, A1320, H⟩ := H
        replace H : (if t223 = 0 then (some (0, (⟨#[]⟩ : ByteArray), ([] : List ByteArray), ([] : List (S66)), ([] : List (S69)))) else (some (3, (⟨#[]⟩ : ByteArray), ([] : List ByteArray), x205003_1, ([] : List (S69))))) = some (r1, r2, r3, r4, r5) := H
        have A132 := Aside0.mk A1320
        clear A1320
        by_cases c133 : t223 = 0
        · rw [if_pos c133] at H
          have c133b0 : (t223 == 0) = true := beq_iff_eq.mpr c133
          have c133b1 : (t223 != 0) = false := bne_eq_false_iff_eq.mpr c133
          clear c133
          simp only [Option.some.injEq, Prod.mk.injEq] at H
          obtain ⟨rfl, rfl, rfl, rfl, rfl⟩ := H
          have hnb134 := NB202_203.out
          have hnc134 := NB203_202.out
          have hnb135 := NB202_204.out
          have hnc135 := NB204_202.out
          have hcz136_0 : wr.cell? ⟨gb202, 0, none⟩ = some (.int .u8 a0_0) := (blk_cell BK202.out 0).trans rfl
          have hcz136_1 : wr.cell? ⟨gb202, 1, none⟩ = some (.string a0_1) := (blk_cell BK202.out 1).trans rfl
          have hcz136_2 : wr.cell? ⟨gb202, 2, none⟩ = some (.slice A0_2 l0_2.length c0_2) := (blk_cell BK202.out 2).trans rfl
          have hcz136_3 : wr.cell? ⟨gb202, 3, none⟩ = some (.slice A0_3 l0_3.length c0_3) := (blk_cell BK202.out 3).trans rfl
          have hcz136_4 : wr.cell? ⟨gb202, 4, none⟩ = some (.slice A0_4 l0_4.length c0_4) := (blk_cell BK202.out 4).trans rfl
          have hfz136_0 := blk_frozen BK202.out 0
          have hfz136_1 := blk_frozen BK202.out 1
          have hfz136_2 := blk_frozen BK202.out 2
          have hfz136_3 := blk_frozen BK202.out 3
          have hfz136_4 := blk_frozen BK202.out 4
          have hnb137 := NB204_203.out
          have hnc137 := NB203_204.out
          have hcz138_0 : wr.cell? ⟨gb204, 0, none⟩ = some (.int .u8 0) := (blk_cell BK204.out 0).trans rfl
          have hcz138_1 : wr.cell? ⟨gb204, 1, none⟩ = some (.string (⟨#[]⟩ : ByteArray)) := (blk_cell BK204.out 1).trans rfl
          have hcz138_2 : wr.cell? ⟨gb204, 2, none⟩ = some (.slice none 0 0) := (blk_cell BK204.out 2).trans rfl
          have hcz138_3 : wr.cell? ⟨gb204, 3, none⟩ = some (u205003) := (blk_cell BK204.out 3).trans rfl
          have hcz138_4 : wr.cell? ⟨gb204, 4, none⟩ = some (.slice none 0 0) := (blk_cell BK204.out 4).trans rfl
          have hfz138_0 := blk_frozen BK204.out 0
          have hfz138_1 := blk_frozen BK204.out 1
          have hfz138_2 := blk_frozen BK204.out 2
          have hfz138_3 := blk_frozen BK204.out 3
          have hfz138_4 := blk_frozen BK204.out 4
          obtain ⟨Ao139, co139, eo139⟩ := Kd.R_slice HO_205003.out
          subst eo139
          go_wp2_with (first | ((with_reducible refine gate_callee (f := 38) rfl ?_); refine goesL_ (some 100) rfl rfl Try.func38 (by kernel_rfl) rfl #[.agg #[.int .u8 3, .string (⟨#[]⟩ : ByteArray), .slice none 0 0, .slice Ao139 x205003_1.length co139, .slice none 0 0]] rfl (by (try simp only [List.map_toArray, List.map_cons, List.map_nil]); first | done | rfl | (simp only [List.length_drop, List.length_take]; rfl)) ?_; (refine (tipstaffref09_Size.calls k1 3 (⟨#[]⟩ : ByteArray) _ _ ([] : List ByteArray) _ _ x205003_1 _ _ ([] : List (S69)) t223 _ ?side1 ?side2 ?side3 ?side4 ?side5 ?side6 A132.out).mono ?_); (case side1 => exact Kd.C_nil _ _); (case side2 => exact Nat.le_refl _); (case side3 => refine (Kd.R_reads' (e := 66) (base := w.heap.size) (ok := fun k_ => True) (n := x205003_1.length) (c := co139) ?_).2.2; exact (by (with_reducible repeat (first | apply Kd.R_alloc | apply Kd.R_drewN | apply Kd.R_drew)); exact (Kd.R_mono (Kd.R_far (p := ⟨gb204, 0, none⟩) (Kd.R_types HO_205003.out BK204.out (by decide)) (fun _ hk => hk.2) (.int .u8 3)) (fun _ h_ => h_.1)))); (case side4 => exact (Kd.R_reads' HO_205003.out).2.1); (case side5 => exact Kd.C_nil _ _); (case side6 => exact Nat.le_refl _); rintro e w140 ⟨rfl, hb⟩; refine ⟨_, rfl, ?_⟩; have n0_ := Aside0.mk (Kd.R_below (by (with_reducible repeat (first | apply Kd.R_alloc | apply Kd.R_drewN | apply Kd.R_drew)); exact (Kd.R_mono (Kd.R_far (p := ⟨gb204, 0, none⟩) (Kd.R_types HO_205003.out BK204.out (by decide)) (fun _ hk => hk.2) (.int .u8 3)) (fun _ h_ => h_.1))) hb); have n1_ := Aside0.mk (blk_below (g := gb202) (o := .cells #[.int .u8 a0_0, .string a0_1, .slice A0_2 l0_2.length c0_2, .slice A0_3 l0_3.length c0_3, .slice A0_4 l0_4.length c0_4] 26 (0, 0)) (by (with_reducible repeat (first | refine blk_drewN ?_ _ | refine blk_drew ?_ | refine blk_alloc ?_ _)); refine blk_far ?_ NB202_204.out _; (with_reducible repeat (first | refine blk_drewN ?_ _ | refine blk_drew ?_ | refine blk_alloc ?_ _)); exact BK202.out) hb); have n2_ := Aside0.mk (blk_below (g := gb203) (o := .cells #[.int .u8 0, .string (⟨#[]⟩ : ByteArray), .slice none 0 0, .slice none 0 0, .slice none 0 0] 26 (0, 0)) (by (with_reducible repeat (first | refine blk_drewN ?_ _ | refine blk_drew ?_ | refine blk_alloc ?_ _)); refine blk_far ?_ NB203_204.out _; (with_reducible repeat (first | refine blk_drewN ?_ _ | refine blk_drew ?_ | refine blk_alloc ?_ _)); exact BK203.out) hb); have n3_ := Aside0.mk (blk_below (g := gb204) (o := .cells #[.int .u8 3, .string (⟨#[]⟩ : ByteArray), .slice none 0 0, .slice Ao139 x205003_1.length co139, .slice none 0 0] 26 (0, 0)) (by (with_reducible repeat (first | refine blk_drewN ?_ _ | refine blk_drew ?_ | refine blk_alloc ?_ _)); refine blk_put (cs := #[.int .u8 0, .string (⟨#[]⟩ : ByteArray), .slice none 0 0, .slice Ao139 x205003_1.length co139, .slice none 0 0]) ?_ 0 _ rfl; (with_reducible repeat (first | refine blk_drewN ?_ _ | refine blk_drew ?_ | refine blk_alloc ?_ _)); exact BK204.out) hb); have n4_ := Aside0.mk (below_step (by repeat (first | (with_reducible first | exact HB.out | apply below_alloc | apply pw_below_drewN | apply below_drew1 | refine below_set ?_ GE202.out | refine below_set ?_ GE203.out | refine below_set ?_ GE204.out) | exact HB.out)) hb); clear HO_205003; clear BK202; clear BK203; clear BK204; clear HB; have HO_205003 := n0_; have BK202 := n1_; have BK203 := n2_; have BK204 := n3_; have HB := n4_; clear n0_ n1_ n2_ n3_ n4_; (try clear hb); (try clear hb2); (try clear hk); (try clear hi); have hcz141_0 : w140.cell? ⟨gb203, 0, none⟩ = some (.int .u8 0) := (blk_cell BK203.out 0).trans rfl; have hcz141_1 : w140.cell? ⟨gb203, 1, none⟩ = some (.string (⟨#[]⟩ : ByteArray)) := (blk_cell BK203.out 1).trans rfl; have hcz141_2 : w140.cell? ⟨gb203, 2, none⟩ = some (.slice none 0 0) := (blk_cell BK203.out 2).trans rfl; have hcz141_3 : w140.cell? ⟨gb203, 3, none⟩ = some (.slice none 0 0) := (blk_cell BK203.out 3).trans rfl; have hcz141_4 : w140.cell? ⟨gb203, 4, none⟩ = some (.slice none 0 0) := (blk_cell BK203.out 4).trans rfl; have hfz141_0 := blk_frozen BK203.out 0; have hfz141_1 := blk_frozen BK203.out 1; have hfz141_2 := blk_frozen BK203.out 2; have hfz141_3 := blk_frozen BK203.out 3; have hfz141_4 := blk_frozen BK203.out 4))
          refine bodyPost_ret (results_cell_row rfl _ _ gb203 26 #[.int .u8 0, .string (⟨#[]⟩ : ByteArray), .slice none 0 0, .slice none 0 0, .slice none 0 0] (0, 0) _ rfl (by (with_reducible repeat (first | refine blk_drewN ?_ _ | refine blk_drew ?_ | refine blk_alloc ?_ _)); refine blk_put (cs := #[.int .u8 0, .string (⟨#[]⟩ : ByteArray), .slice none 0 0, .slice none 0 0, .slice none 0 0]) ?_ 4 _ rfl; (with_reducible repeat (first | refine blk_drewN ?_ _ | refine blk_drew ?_ | refine blk_alloc ?_ _)); refine blk_put (cs := #[.int .u8 0, .string (⟨#[]⟩ : ByteArray), .slice none 0 0, .slice none 0 0, .slice none 0 0]) ?_ 3 _ rfl; (with_reducible repeat (first | refine blk_drewN ?_ _ | refine blk_drew ?_ | refine blk_alloc ?_ _)); refine blk_put (cs := #[.int .u8 0, .string (⟨#[]⟩ : ByteArray), .slice none 0 0, .slice none 0 0, .slice none 0 0]) ?_ 2 _ rfl; (with_reducible repeat (first | refine blk_drewN ?_ _ | refine blk_drew ?_ | refine blk_alloc ?_ _)); refine blk_put (cs := #[.int .u8 0, .string (⟨#[]⟩ : ByteArray), .slice none 0 0, .slice none 0 0, .slice none 0 0]) ?_ 1 _ rfl; (with_reducible repeat (first | refine blk_drewN ?_ _ | refine blk_drew ?_ | refine blk_alloc ?_ _)); refine blk_put (cs := #[.int .u8 0, .string (⟨#[]⟩ : ByteArray), .slice none 0 0, .slice none 0 0, .slice none 0 0]) ?_ 0 _ rfl; (with_reducible repeat (first | refine blk_drewN ?_ _ | refine blk_drew ?_ | refine blk_alloc ?_ _)); exact BK203.out) Try.underlying26 rfl (by kernel_rfl)) rfl ?_
          exact ⟨_, _, _, by first | rfl | (simp [errW_none, errW_some] <;> rfl) | (simp only [← hji2]; first | rfl | (simp [errW_none, errW_some] <;> rfl)) | (simp [*, errW_none, errW_some] <;> rfl), by first | exact Kd.R_nil _ _ _ _ _ | exact Kd.N_nil _ _ _ _ _ | exact Kd.V_nil _ _ _ _ _ | exact Kd.Q_nil _ _ _ _ _ | exact Kd.S_nil _ _ _ _ _, by first | exact Kd.R_nil _ _ _ _ _ | exact Kd.N_nil _ _ _ _ _ | exact Kd.V_nil _ _ _ _ _ | exact Kd.Q_nil _ _ _ _ _ | exact Kd.S_nil _ _ _ _ _, by first | exact Kd.R_nil _ _ _ _ _ | exact Kd.N_nil _ _ _ _ _ | exact Kd.V_nil _ _ _ _ _ | exact Kd.Q_nil _ _ _ _ _ | exact Kd.S_nil _ _ _ _ _, by repeat (first | (with_reducible first | exact HB.out | apply below_alloc | apply pw_below_drewN | apply below_drew1 | refine below_set ?_ GE202.out | refine below_set ?_ GE203.out | refine below_set ?_ GE204.out) | exact HB.out)⟩
        · rw [if_neg c133] at H
          have c133b0 : (t223 == 0) = false := beq_eq_false_iff_ne.mpr c133
          have c133b1 : (t223 != 0) = true := bne_iff_ne.mpr c133
          simp only [Option.some.injEq, Prod.mk.injEq] at H
          obtain ⟨rfl, rfl, rfl, rfl, rfl⟩ := H
          have hnb142 := NB202_203.out
          have hnc142 := NB203_202.out
          have hnb143 := NB202_204.out
          have hnc143 := NB204_202.out
          have hcz144_0 : wr.cell? ⟨gb202, 0, none⟩ = some (.int .u8 a0_0) := (blk_cell BK202.out 0).trans rfl
          have hcz144_1 : wr.cell? ⟨gb202, 1, none⟩ = some (.string a0_1) := (blk_cell BK202.out 1).trans rfl
          have hcz144_2 : wr.cell? ⟨gb202, 2, none⟩ = some (.slice A0_2 l0_2.length c0_2) := (blk_cell BK202.out 2).trans rfl
          have hcz144_3 : wr.cell? ⟨gb202, 3, none⟩ = some (.slice A0_3 l0_3.length c0_3) := (blk_cell BK202.out 3).trans rfl
          have hcz144_4 : wr.cell? ⟨gb202, 4, none⟩ = some (.slice A0_4 l0_4.length c0_4) := (blk_cell BK202.out 4).trans rfl
          have hfz144_0 := blk_frozen BK202.out 0
          have hfz144_1 := blk_frozen BK202.out 1
          have hfz144_2 := blk_frozen BK202.out 2
          have hfz144_3 := blk_frozen BK202.out 3
          have hfz144_4 := blk_frozen BK202.out 4
          have hnb145 := NB204_203.out
          have hnc145 := NB203_204.out
          have hcz146_0 : wr.cell? ⟨gb204, 0, none⟩ = some (.int .u8 0) := (blk_cell BK204.out 0).trans rfl
          have hcz146_1 : wr.cell? ⟨gb204, 1, none⟩ = some (.string (⟨#[]⟩ : ByteArray)) := (blk_cell BK204.out 1).trans rfl
          have hcz146_2 : wr.cell? ⟨gb204, 2, none⟩ = some (.slice none 0 0) := (blk_cell BK204.out 2).trans rfl
          have hcz146_3 : wr.cell? ⟨gb204, 3, none⟩ = some (u205003) := (blk_cell BK204.out 3).trans rfl
          have hcz146_4 : wr.cell? ⟨gb204, 4, none⟩ = some (.slice none 0 0) := (blk_cell BK204.out 4).trans rfl
          have hfz146_0 := blk_frozen BK204.out 0
          have hfz146_1 := blk_frozen BK204.out 1
          have hfz146_2 := blk_frozen BK204.out 2
          have hfz146_3 := blk_frozen BK204.out 3
          have hfz146_4 := blk_frozen BK204.out 4
          obtain ⟨Ao147, co147, eo147⟩ := Kd.R_slice HO_205003.out
          subst eo147
          go_wp2_with (first | ((with_reducible refine gate_callee (f := 38) rfl ?_); refine goesL_ (some 100) rfl rfl Try.func38 (by kernel_rfl) rfl #[.agg #[.int .u8 3, .string (⟨#[]⟩ : ByteArray), .slice none 0 0, .slice Ao147 x205003_1.length co147, .slice none 0 0]] rfl (by (try simp only [List.map_toArray, List.map_cons, List.map_nil]); first | done | rfl | (simp only [List.length_drop, List.length_take]; rfl)) ?_; (refine (tipstaffref09_Size.calls k1 3 (⟨#[]⟩ : ByteArray) _ _ ([] : List ByteArray) _ _ x205003_1 _ _ ([] : List (S69)) t223 _ ?side1 ?side2 ?side3 ?side4 ?side5 ?side6 A132.out).mono ?_); (case side1 => exact Kd.C_nil _ _); (case side2 => exact Nat.le_refl _); (case side3 => refine (Kd.R_reads' (e := 66) (base := w.heap.size) (ok := fun k_ => True) (n := x205003_1.length) (c := co147) ?_).2.2; exact (by (with_reducible repeat (first | apply Kd.R_alloc | apply Kd.R_drewN | apply Kd.R_drew)); exact (Kd.R_mono (Kd.R_far (p := ⟨gb204, 0, none⟩) (Kd.R_types HO_205003.out BK204.out (by decide)) (fun _ hk => hk.2) (.int .u8 3)) (fun _ h_ => h_.1)))); (case side4 => exact (Kd.R_reads' HO_205003.out).2.1); (case side5 => exact Kd.C_nil _ _); (case side6 => exact Nat.le_refl _); rintro e w148 ⟨rfl, hb⟩; refine ⟨_, rfl, ?_⟩; have n0_ := Aside0.mk (Kd.R_below (by (with_reducible repeat (first | apply Kd.R_alloc | apply Kd.R_drewN | apply Kd.R_drew)); exact (Kd.R_mono (Kd.R_far (p := ⟨gb204, 0, none⟩) (Kd.R_types HO_205003.out BK204.out (by decide)) (fun _ hk => hk.2) (.int .u8 3)) (fun _ h_ => h_.1))) hb); have n1_ := Aside0.mk (blk_below (g := gb202) (o := .cells #[.int .u8 a0_0, .string a0_1, .slice A0_2 l0_2.length c0_2, .slice A0_3 l0_3.length c0_3, .slice A0_4 l0_4.length c0_4] 26 (0, 0)) (by (with_reducible repeat (first | refine blk_drewN ?_ _ | refine blk_drew ?_ | refine blk_alloc ?_ _)); refine blk_far ?_ NB202_204.out _; (with_reducible repeat (first | refine blk_drewN ?_ _ | refine blk_drew ?_ | refine blk_alloc ?_ _)); exact BK202.out) hb); have n2_ := Aside0.mk (blk_below (g := gb203) (o := .cells #[.int .u8 0, .string (⟨#[]⟩ : ByteArray), .slice none 0 0, .slice none 0 0, .slice none 0 0] 26 (0, 0)) (by (with_reducible repeat (first | refine blk_drewN ?_ _ | refine blk_drew ?_ | refine blk_alloc ?_ _)); refine blk_far ?_ NB203_204.out _; (with_reducible repeat (first | refine blk_drewN ?_ _ | refine blk_drew ?_ | refine blk_alloc ?_ _)); exact BK203.out) hb); have n3_ := Aside0.mk (blk_below (g := gb204) (o := .cells #[.int .u8 3, .string (⟨#[]⟩ : ByteArray), .slice none 0 0, .slice Ao147 x205003_1.length co147, .slice none 0 0] 26 (0, 0)) (by (with_reducible repeat (first | refine blk_drewN ?_ _ | refine blk_drew ?_ | refine blk_alloc ?_ _)); refine blk_put (cs := #[.int .u8 0, .string (⟨#[]⟩ : ByteArray), .slice none 0 0, .slice Ao147 x205003_1.length co147, .slice none 0 0]) ?_ 0 _ rfl; (with_reducible repeat (first | refine blk_drewN ?_ _ | refine blk_drew ?_ | refine blk_alloc ?_ _)); exact BK204.out) hb); have n4_ := Aside0.mk (below_step (by repeat (first | (with_reducible first | exact HB.out | apply below_alloc | apply pw_below_drewN | apply below_drew1 | refine below_set ?_ GE202.out | refine below_set ?_ GE203.out | refine below_set ?_ GE204.out) | exact HB.out)) hb); clear HO_205003; clear BK202; clear BK203; clear BK204; clear HB; have HO_205003 := n0_; have BK202 := n1_; have BK203 := n2_; have BK204 := n3_; have HB := n4_; clear n0_ n1_ n2_ n3_ n4_; (try clear hb); (try clear hb2); (try clear hk); (try clear hi); have hcz149_0 : w148.cell? ⟨gb204, 0, none⟩ = some (.int .u8 3) := (blk_cell BK204.out 0).trans rfl; have hcz149_1 : w148.cell? ⟨gb204, 1, none⟩ = some (.string (⟨#[]⟩ : ByteArray)) := (blk_cell BK204.out 1).trans rfl; have hcz149_2 : w148.cell? ⟨gb204, 2, none⟩ = some (.slice none 0 0) := (blk_cell BK204.out 2).trans rfl; have hcz149_3 : w148.cell? ⟨gb204, 3, none⟩ = some (.slice Ao147 x205003_1.length co147) := (blk_cell BK204.out 3).trans rfl; have hcz149_4 : w148.cell? ⟨gb204, 4, none⟩ = some (.slice none 0 0) := (blk_cell BK204.out 4).trans rfl; have hfz149_0 := blk_frozen BK204.out 0; have hfz149_1 := blk_frozen BK204.out 1; have hfz149_2 := blk_frozen BK204.out 2; have hfz149_3 := blk_frozen BK204.out 3; have hfz149_4 := blk_frozen BK204.out 4; have hcz150_0 : w148.cell? ⟨gb203, 0, none⟩ = some (.int .u8 0) := (blk_cell BK203.out 0).trans rfl; have hcz150_1 : w148.cell? ⟨gb203, 1, none⟩ = some (.string (⟨#[]⟩ : ByteArray)) := (blk_cell BK203.out 1).trans rfl; have hcz150_2 : w148.cell? ⟨gb203, 2, none⟩ = some (.slice none 0 0) := (blk_cell BK203.out 2).trans rfl; have hcz150_3 : w148.cell? ⟨gb203, 3, none⟩ = some (.slice none 0 0) := (blk_cell BK203.out 3).trans rfl; have hcz150_4 : w148.cell? ⟨gb203, 4, none⟩ = some (.slice none 0 0) := (blk_cell BK203.out 4).trans rfl; have hfz150_0 := blk_frozen BK203.out 0; have hfz150_1 := blk_frozen BK203.out 1; have hfz150_2 := blk_frozen BK203.out 2; have hfz150_3 := blk_frozen BK203.out 3; have hfz150_4 := blk_frozen BK203.out 4))
          refine bodyPost_ret (results_cell_row rfl _ _ gb203 26 #[.int .u8 3, .string (⟨#[]⟩ : ByteArray), .slice none 0 0, .slice Ao147 x205003_1.length co147, .slice none 0 0] (0, 0) _ rfl (by (with_reducible repeat (first | refine blk_drewN ?_ _ | refine blk_drew ?_ | refine blk_alloc ?_ _)); refine blk_put (cs := #[.int .u8 3, .string (⟨#[]⟩ : ByteArray), .slice none 0 0, .slice Ao147 x205003_1.length co147, .slice none 0 0]) ?_ 4 _ rfl; (with_reducible repeat (first | refine blk_drewN ?_ _ | refine blk_drew ?_ | refine blk_alloc ?_ _)); refine blk_put (cs := #[.int .u8 3, .string (⟨#[]⟩ : ByteArray), .slice none 0 0, .slice none 0 0, .slice none 0 0]) ?_ 3 _ rfl; (with_reducible repeat (first | refine blk_drewN ?_ _ | refine blk_drew ?_ | refine blk_alloc ?_ _)); refine blk_put (cs := #[.int .u8 3, .string (⟨#[]⟩ : ByteArray), .slice none 0 0, .slice none 0 0, .slice none 0 0]) ?_ 2 _ rfl; (with_reducible repeat (first | refine blk_drewN ?_ _ | refine blk_drew ?_ | refine blk_alloc ?_ _)); refine blk_put (cs := #[.int .u8 3, .string (⟨#[]⟩ : ByteArray), .slice none 0 0, .slice none 0 0, .slice none 0 0]) ?_ 1 _ rfl; (with_reducible repeat (first | refine blk_drewN ?_ _ | refine blk_drew ?_ | refine blk_alloc ?_ _)); refine blk_put (cs := #[.int .u8 0, .string (⟨#[]⟩ : ByteArray), .slice none 0 0, .slice none 0 0, .slice none 0 0]) ?_ 0 _ rfl; (with_reducible repeat (first | refine blk_drewN ?_ _ | refine blk_drew ?_ | refine blk_alloc ?_ _)); exact BK203.out) Try.underlying26 rfl (by kernel_rfl)) rfl ?_
          exact ⟨_, _, _, by first | rfl | (simp [errW_none, errW_some] <;> rfl) | (simp only [← hji2]; first | rfl | (simp [errW_none, errW_some] <;> rfl)) | (simp [*, errW_none, errW_some] <;> rfl), by first | exact Kd.R_nil _ _ _ _ _ | exact Kd.N_nil _ _ _ _ _ | exact Kd.V_nil _ _ _ _ _ | exact Kd.Q_nil _ _ _ _ _ | exact Kd.S_nil _ _ _ _ _, by (with_reducible repeat (first | apply Kd.R_alloc | apply Kd.R_drewN | apply Kd.R_drew)); exact Kd.R_mono (Kd.R_far (p := ⟨gb203, 4, none⟩) (Kd.R_far (p := ⟨gb203, 3, none⟩) (Kd.R_far (p := ⟨gb203, 2, none⟩) (Kd.R_far (p := ⟨gb203, 1, none⟩) (Kd.R_far (p := ⟨gb203, 0, none⟩) (Kd.R_types HO_205003.out BK203.out (by decide)) (fun _ hk => hk.2) (.int .u8 3)) (fun _ hk => hk.2) (.string (⟨#[]⟩ : ByteArray))) (fun _ hk => hk.2) (.slice none 0 0)) (fun _ hk => hk.2) (.slice Ao147 x205003_1.length co147)) (fun _ hk => hk.2) (.slice none 0 0)) (fun _ hk => trivial), by first | exact Kd.R_nil _ _ _ _ _ | exact Kd.N_nil _ _ _ _ _ | exact Kd.V_nil _ _ _ _ _ | exact Kd.Q_nil _ _ _ _ _ | exact Kd.S_nil _ _ _ _ _, by repeat (first | (with_reducible first | exact HB.out | apply below_alloc | apply pw_below_drewN | apply below_drew1 | refine below_set ?_ GE202.out | refine below_set ?_ GE203.out | refine below_set ?_ GE204.out) | exact HB.out)⟩
end Go.Proofs.Ytmhdkjihhdljlaa.X
