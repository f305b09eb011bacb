-- Written by a program of the session (wip/xprint.py): the kit's printer, beside contracts of the session's own.
import Derived.Test.YtmhdkjihhdljlaaXx0
import Derived.Test.YtmhdkjihhdljlaaXx1
import Derived.Test.YtmhdkjihhdljlaaXx13
import Derived.Test.YtmhdkjihhdljlaaStrOrd
namespace Go.Proofs.Ytmhdkjihhdljlaa.X
open Go.RowKit Go.Proofs.YtmhdkjihhdljlaaW.PrintWords Go.Proofs.YtmhdkjihhdljlaaW.PrintLast Go.Proofs.YtmhdkjihhdljlaaW.PrintMore
attribute [local go_sem] binOp_str_gtr binOp_str_leq binOp_str_geq max2_int min2_int max_two min_two max_three min_three max_four min_four   -- for this text's walks alone
set_option linter.unusedVariables false
set_option linter.unusedSimpArgs false

attribute [local go_sem high] eqA66 eqA69
/-! ### tipstaffref09_Same: function 24 -/
mutual
def tipstaffref09_Same.j0 : Nat → Bool → Int → ByteArray → List ByteArray → List (S66) → List (S69) → Int → ByteArray → List ByteArray → List (S66) → List (S69) → Option (Bool)
  | 0, _, _, _, _, _, _, _, _, _, _, _ => none
  | k + 1, x46, x234000, x234001, x234002, x234003, x234004, x235000, x235001, x235002, x235003, x235004 => if x46 = true then (some false) else (tipstaffref09_Same.l0 k 0 x234000 x234001 x234002 x234003 x234004 x235000 x235001 x235002 x235003 x235004)
def tipstaffref09_Same.l0 : Nat → Int → Int → ByteArray → List ByteArray → List (S66) → List (S69) → Int → ByteArray → List ByteArray → List (S66) → List (S69) → Option (Bool)
  | 0, _, _, _, _, _, _, _, _, _, _, _ => none
  | k + 1, x6, x234000, x234001, x234002, x234003, x234004, x235000, x235001, x235002, x235003, x235004 => if x6 < (x234003.length : Int) then (if 0 ≤ x6 then (if x6 < (x235003.length : Int) then (if (!((((rd_T66 x234003 x6).f0).toList) == (((rd_T66 x235003 x6).f0).toList)) || (!((((rd_T66 x234003 x6).f1).toList) == (((rd_T66 x235003 x6).f1).toList)))) = true then (some false) else (tipstaffref09_Same.l0 k (wrap64 (x6 + 1)) x234000 x234001 x234002 x234003 x234004 x235000 x235001 x235002 x235003 x235004)) else (none)) else (none)) else (tipstaffref09_Same.l1 k 0 x234000 x234001 x234002 x234003 x234004 x235000 x235001 x235002 x235003 x235004)
def tipstaffref09_Same.l1 : Nat → Int → Int → ByteArray → List ByteArray → List (S66) → List (S69) → Int → ByteArray → List ByteArray → List (S66) → List (S69) → Option (Bool)
  | 0, _, _, _, _, _, _, _, _, _, _, _ => none
  | k + 1, x7, x234000, x234001, x234002, x234003, x234004, x235000, x235001, x235002, x235003, x235004 => if x7 < (x234004.length : Int) then (if 0 ≤ x7 then (if x7 < (x235004.length : Int) then (if (!((((rd_T69 x234004 x7).f0).toList) == (((rd_T69 x235004 x7).f0).toList)) || (!(((rd_T69 x234004 x7).f1) == ((rd_T69 x235004 x7).f1)))) = true then (some false) else (tipstaffref09_Same.l1 k (wrap64 (x7 + 1)) x234000 x234001 x234002 x234003 x234004 x235000 x235001 x235002 x235003 x235004)) else (none)) else (none)) else (some true)
end
def tipstaffref09_Same.f (k : Nat) (a0_0 : Int) (a0_1 : ByteArray) (l0_2 : List ByteArray) (l0_3 : List (S66)) (l0_4 : List (S69)) (a1_0 : Int) (a1_1 : ByteArray) (l1_2 : List ByteArray) (l1_3 : List (S66)) (l1_4 : List (S69)) : Option (Bool) := (tipstaffref01_Texts.f k l0_2 l1_2).bind fun t235 => (if a0_0 = a1_0 then (if a0_1.toList = a1_1.toList then (if t235 = true then (if (l0_3.length : Int) = (l1_3.length : Int) then (tipstaffref09_Same.j0 k ((l0_4.length : Int) != (l1_4.length : Int)) a0_0 a0_1 l0_2 l0_3 l0_4 a1_0 a1_1 l1_2 l1_3 l1_4) else (tipstaffref09_Same.j0 k true a0_0 a0_1 l0_2 l0_3 l0_4 a1_0 a1_1 l1_2 l1_3 l1_4)) else (tipstaffref09_Same.j0 k true a0_0 a0_1 l0_2 l0_3 l0_4 a1_0 a1_1 l1_2 l1_3 l1_4)) else (tipstaffref09_Same.j0 k true a0_0 a0_1 l0_2 l0_3 l0_4 a1_0 a1_1 l1_2 l1_3 l1_4)) else (tipstaffref09_Same.j0 k true a0_0 a0_1 l0_2 l0_3 l0_4 a1_0 a1_1 l1_2 l1_3 l1_4))
theorem tipstaffref09_Same.mono_l : ∀ k, (∀ y0 y1 y2 y3 y4 y5 y6 y7 y8 y9 y10, LeO (tipstaffref09_Same.j0 k y0 y1 y2 y3 y4 y5 y6 y7 y8 y9 y10) (tipstaffref09_Same.j0 (k + 1) y0 y1 y2 y3 y4 y5 y6 y7 y8 y9 y10)) ∧ (∀ y0 y1 y2 y3 y4 y5 y6 y7 y8 y9 y10, LeO (tipstaffref09_Same.l0 k y0 y1 y2 y3 y4 y5 y6 y7 y8 y9 y10) (tipstaffref09_Same.l0 (k + 1) y0 y1 y2 y3 y4 y5 y6 y7 y8 y9 y10)) ∧ (∀ y0 y1 y2 y3 y4 y5 y6 y7 y8 y9 y10, LeO (tipstaffref09_Same.l1 k y0 y1 y2 y3 y4 y5 y6 y7 y8 y9 y10) (tipstaffref09_Same.l1 (k + 1) y0 y1 y2 y3 y4 y5 y6 y7 y8 y9 y10))
  | 0 => ⟨fun _ _ _ _ _ _ _ _ _ _ _ r h => by simp [tipstaffref09_Same.j0] at h, fun _ _ _ _ _ _ _ _ _ _ _ r h => by simp [tipstaffref09_Same.l0] at h, fun _ _ _ _ _ _ _ _ _ _ _ r h => by simp [tipstaffref09_Same.l1] at h⟩
  | k + 1 => by
    obtain ⟨ih0, ih1, ih2⟩ := tipstaffref09_Same.mono_l k
    refine ⟨?_, ?_, ?_⟩
    · intro y0 y1 y2 y3 y4 y5 y6 y7 y8 y9 y10
      unfold tipstaffref09_Same.j0
      repeat' first
      | (with_reducible exact ih0 _ _ _ _ _ _ _ _ _ _ _)
      | (with_reducible exact ih1 _ _ _ _ _ _ _ _ _ _ _)
      | (with_reducible exact ih2 _ _ _ _ _ _ _ _ _ _ _)
      | (with_reducible exact tipstaffref01_Texts.mono _ _ _)
      | (with_reducible exact LeO.refl _)
      | (with_reducible exact LeO.none _)
      | (with_reducible refine LeO.ite ?_ ?_)
      | (with_reducible refine LeO.bind ?_ (fun _ => ?_))
      | exact ih0 _ _ _ _ _ _ _ _ _ _ _
      | exact ih1 _ _ _ _ _ _ _ _ _ _ _
      | exact ih2 _ _ _ _ _ _ _ _ _ _ _
      | exact tipstaffref01_Texts.mono _ _ _
      | exact LeO.none _
      | refine LeO.ite ?_ ?_
      | refine LeO.bind ?_ (fun _ => ?_)
    · intro y0 y1 y2 y3 y4 y5 y6 y7 y8 y9 y10
      unfold tipstaffref09_Same.l0
      repeat' first
      | (with_reducible exact ih0 _ _ _ _ _ _ _ _ _ _ _)
      | (with_reducible exact ih1 _ _ _ _ _ _ _ _ _ _ _)
      | (with_reducible exact ih2 _ _ _ _ _ _ _ _ _ _ _)
      | (with_reducible exact tipstaffref01_Texts.mono _ _ _)
      | (with_reducible exact LeO.refl _)
      | (with_reducible exact LeO.none _)
      | (with_reducible refine LeO.ite ?_ ?_)
      | (with_reducible refine LeO.bind ?_ (fun _ => ?_))
      | exact ih0 _ _ _ _ _ _ _ _ _ _ _
      | exact ih1 _ _ _ _ _ _ _ _ _ _ _
      | exact ih2 _ _ _ _ _ _ _ _ _ _ _
      | exact tipstaffref01_Texts.mono _ _ _
      | exact LeO.none _
      | refine LeO.ite ?_ ?_
      | refine LeO.bind ?_ (fun _ => ?_)
    · intro y0 y1 y2 y3 y4 y5 y6 y7 y8 y9 y10
      unfold tipstaffref09_Same.l1
      repeat' first
      | (with_reducible exact ih0 _ _ _ _ _ _ _ _ _ _ _)
      | (with_reducible exact ih1 _ _ _ _ _ _ _ _ _ _ _)
      | (with_reducible exact ih2 _ _ _ _ _ _ _ _ _ _ _)
      | (with_reducible exact tipstaffref01_Texts.mono _ _ _)
      | (with_reducible exact LeO.refl _)
      | (with_reducible exact LeO.none _)
      | (with_reducible refine LeO.ite ?_ ?_)
      | (with_reducible refine LeO.bind ?_ (fun _ => ?_))
      | exact ih0 _ _ _ _ _ _ _ _ _ _ _
      | exact ih1 _ _ _ _ _ _ _ _ _ _ _
      | exact ih2 _ _ _ _ _ _ _ _ _ _ _
      | exact tipstaffref01_Texts.mono _ _ _
      | exact LeO.none _
      | refine LeO.ite ?_ ?_
      | refine LeO.bind ?_ (fun _ => ?_)
theorem tipstaffref09_Same.mono : ∀ a0 a1 a2 a3 a4 a5 a6 a7 a8 a9 k, LeO (tipstaffref09_Same.f k a0 a1 a2 a3 a4 a5 a6 a7 a8 a9) (tipstaffref09_Same.f (k + 1) a0 a1 a2 a3 a4 a5 a6 a7 a8 a9) := by
  intro a0 a1 a2 a3 a4 a5 a6 a7 a8 a9 k
  obtain ⟨ih0, ih1, ih2⟩ := tipstaffref09_Same.mono_l k
  unfold tipstaffref09_Same.f
  repeat' first
      | (with_reducible exact ih0 _ _ _ _ _ _ _ _ _ _ _)
      | (with_reducible exact ih1 _ _ _ _ _ _ _ _ _ _ _)
      | (with_reducible exact ih2 _ _ _ _ _ _ _ _ _ _ _)
      | (with_reducible exact tipstaffref01_Texts.mono _ _ _)
      | (with_reducible exact LeO.refl _)
      | (with_reducible exact LeO.none _)
      | (with_reducible refine LeO.ite ?_ ?_)
      | (with_reducible refine LeO.bind ?_ (fun _ => ?_))
      | exact ih0 _ _ _ _ _ _ _ _ _ _ _
      | exact ih1 _ _ _ _ _ _ _ _ _ _ _
      | exact ih2 _ _ _ _ _ _ _ _ _ _ _
      | exact tipstaffref01_Texts.mono _ _ _
      | exact LeO.none _
      | refine LeO.ite ?_ ?_
      | refine LeO.bind ?_ (fun _ => ?_)
set_option maxHeartbeats 8000000 in
set_option maxRecDepth 100000 in
theorem tipstaffref09_Same.calls (k : Nat) (a0_0 : Int) (a0_1 : ByteArray) (A0_2 : Option Addr) (c0_2 : Nat) (l0_2 : List ByteArray) (A0_3 : Option Addr) (c0_3 : Nat) (l0_3 : List (S66)) (A0_4 : Option Addr) (c0_4 : Nat) (l0_4 : List (S69)) (a1_0 : Int) (a1_1 : ByteArray) (A1_2 : Option Addr) (c1_2 : Nat) (l1_2 : List ByteArray) (A1_3 : Option Addr) (c1_3 : Nat) (l1_3 : List (S66)) (A1_4 : Option Addr) (c1_4 : Nat) (l1_4 : List (S69)) (r : Bool) (w : World) (hr0_2 : Kd.C Kd.string w A0_2 l0_2.length l0_2) (hc0_2 : l0_2.length ≤ c0_2) (hr0_3 : Kd.C k66 w A0_3 l0_3.length l0_3) (hc0_3 : l0_3.length ≤ c0_3) (hr0_4 : Kd.C k69 w A0_4 l0_4.length l0_4) (hc0_4 : l0_4.length ≤ c0_4) (hr1_2 : Kd.C Kd.string w A1_2 l1_2.length l1_2) (hc1_2 : l1_2.length ≤ c1_2) (hr1_3 : Kd.C k66 w A1_3 l1_3.length l1_3) (hc1_3 : l1_3.length ≤ c1_3) (hr1_4 : Kd.C k69 w A1_4 l1_4.length l1_4) (hc1_4 : l1_4.length ≤ c1_4) (h : tipstaffref09_Same.f k a0_0 a0_1 l0_2 l0_3 l0_4 a1_0 a1_1 l1_2 l1_3 l1_4 = some r) :
    Calls Try.prog 24 #[.agg #[.int .u8 a0_0, .string a0_1, .slice A0_2 l0_2.length c0_2, .slice A0_3 l0_3.length c0_3, .slice A0_4 l0_4.length c0_4], .agg #[.int .u8 a1_0, .string a1_1, .slice A1_2 l1_2.length c1_2, .slice A1_3 l1_3.length c1_3, .slice A1_4 l1_4.length c1_4]] w fun e w' => e = .returned (.bool r) ∧ Below w.heap.size w w' := by
  have hu26 := Try.underlying26
  have hu66 := Try.underlying66
  have hu69 := Try.underlying69
  have HR0_2 := Aside0.mk hr0_2
  have HC0_2 := Aside0.mk hc0_2
  clear hr0_2 hc0_2
  have HR0_3 := Aside0.mk hr0_3
  have HC0_3 := Aside0.mk hc0_3
  clear hr0_3 hc0_3
  have HR0_4 := Aside0.mk hr0_4
  have HC0_4 := Aside0.mk hc0_4
  clear hr0_4 hc0_4
  have HR1_2 := Aside0.mk hr1_2
  have HC1_2 := Aside0.mk hc1_2
  clear hr1_2 hc1_2
  have HR1_3 := Aside0.mk hr1_3
  have HC1_3 := Aside0.mk hc1_3
  clear hr1_3 hc1_3
  have HR1_4 := Aside0.mk hr1_4
  have HC1_4 := Aside0.mk hc1_4
  clear hr1_4 hc1_4
  have HB := Aside0.mk (Below.refl w.heap.size w)
  have H : ((tipstaffref01_Texts.f k l0_2 l1_2).bind fun t235 => (if a0_0 = a1_0 then (if a0_1.toList = a1_1.toList then (if t235 = true then (if (l0_3.length : Int) = (l1_3.length : Int) then (tipstaffref09_Same.j0 k ((l0_4.length : Int) != (l1_4.length : Int)) a0_0 a0_1 l0_2 l0_3 l0_4 a1_0 a1_1 l1_2 l1_3 l1_4) else (tipstaffref09_Same.j0 k true a0_0 a0_1 l0_2 l0_3 l0_4 a1_0 a1_1 l1_2 l1_3 l1_4)) else (tipstaffref09_Same.j0 k true a0_0 a0_1 l0_2 l0_3 l0_4 a1_0 a1_1 l1_2 l1_3 l1_4)) else (tipstaffref09_Same.j0 k true a0_0 a0_1 l0_2 l0_3 l0_4 a1_0 a1_1 l1_2 l1_3 l1_4)) else (tipstaffref09_Same.j0 k true a0_0 a0_1 l0_2 l0_3 l0_4 a1_0 a1_1 l1_2 l1_3 l1_4))) = some r := h
  clear h
  replace H := Option.bind_eq_some_iff.mp H
  obtain ⟨t235, A30, H⟩ := H
  replace H : (if a0_0 = a1_0 then (if a0_1.toList = a1_1.toList then (if t235 = true then (if (l0_3.length : Int) = (l1_3.length : Int) then (tipstaffref09_Same.j0 k ((l0_4.length : Int) != (l1_4.length : Int)) a0_0 a0_1 l0_2 l0_3 l0_4 a1_0 a1_1 l1_2 l1_3 l1_4) else (tipstaffref09_Same.j0 k true a0_0 a0_1 l0_2 l0_3 l0_4 a1_0 a1_1 l1_2 l1_3 l1_4)) else (tipstaffref09_Same.j0 k true a0_0 a0_1 l0_2 l0_3 l0_4 a1_0 a1_1 l1_2 l1_3 l1_4)) else (tipstaffref09_Same.j0 k true a0_0 a0_1 l0_2 l0_3 l0_4 a1_0 a1_1 l1_2 l1_3 l1_4)) else (tipstaffref09_Same.j0 k true a0_0 a0_1 l0_2 l0_3 l0_4 a1_0 a1_1 l1_2 l1_3 l1_4)) = some r := H
  have A3 := Aside0.mk A30
  clear A30
  have HC4 := Aside0.mk H
  clear H
  go_enter Try.func24, Try.ntmps24
  go_upto_region 2 with (first | ((with_reducible refine gate_dst (N := 2) rfl ?_); (try (refine gate_guard (by rfl) ?_; dsimp only)); refine box_event ?hg (N := 2) ?hd (cs := #[.int .u8 a0_0, .string a0_1, .slice A0_2 l0_2.length c0_2, .slice A0_3 l0_3.length c0_3, .slice A0_4 l0_4.length c0_4]) (t := 26) ?hr ?_; (case hd => rfl); (case hg => rfl); (case hr => first | (go_simp; done) | (go_simp; rfl)); intro gb233 hg w5 hbox hb; have n0_ := Aside0.mk (below_step (by repeat (first | (with_reducible first | exact HB.out | apply below_alloc | apply pw_below_drewN | apply below_drew1) | exact HB.out)) hb); have n1_ := Aside0.mk (hbox); have n2_ := Aside0.mk ((by rw [hg]; exact (below_size (by repeat (first | (with_reducible first | exact HB.out | apply below_alloc | apply pw_below_drewN | apply below_drew1) | exact HB.out))) : w.heap.size ≤ gb233)); have n3_ := Aside0.mk ((by rw [hg]; exact (below_size (by repeat (first | (with_reducible first | exact HB.out | apply below_alloc | apply pw_below_drewN | apply below_drew1) | exact HB.out))) : w.heap.size ≤ gb233)); clear HB; have HB := n0_; have BK233 := n1_; have GW233 := n2_; have GE233 := n3_; clear n0_ n1_ n2_ n3_; clear hb hbox hg) | ((with_reducible refine gate_dst (N := 3) rfl ?_); (try (refine gate_guard (by rfl) ?_; dsimp only)); refine box_event ?hg (N := 3) ?hd (cs := #[.int .u8 a1_0, .string a1_1, .slice A1_2 l1_2.length c1_2, .slice A1_3 l1_3.length c1_3, .slice A1_4 l1_4.length c1_4]) (t := 26) ?hr ?_; (case hd => rfl); (case hg => rfl); (case hr => first | (go_simp; done) | (go_simp; rfl)); intro gb234 hg w6 hbox hb; have n0_ := Aside0.mk (blk_below (g := gb233) (o := .cells #[.int .u8 a0_0, .string a0_1, .slice A0_2 l0_2.length c0_2, .slice A0_3 l0_3.length c0_3, .slice A0_4 l0_4.length c0_4] 26 (0, 0)) (by (with_reducible repeat (first | refine blk_drewN ?_ _ | refine blk_drew ?_ | refine blk_alloc ?_ _)); exact BK233.out) hb); have n1_ := Aside0.mk (below_step (by repeat (first | (with_reducible first | exact HB.out | apply below_alloc | apply pw_below_drewN | apply below_drew1 | refine below_set ?_ GE233.out) | exact HB.out)) hb); have n2_ := Aside0.mk (hbox); have n3_ := Aside0.mk ((by rw [hg]; exact (below_size (by repeat (first | (with_reducible first | exact HB.out | apply below_alloc | apply pw_below_drewN | apply below_drew1 | refine below_set ?_ GE233.out) | exact HB.out))) : w.heap.size ≤ gb234)); have n4_ := Aside0.mk ((by rw [hg]; exact (below_size (by repeat (first | (with_reducible first | exact HB.out | apply below_alloc | apply pw_below_drewN | apply below_drew1 | refine below_set ?_ GE233.out) | exact HB.out))) : w.heap.size ≤ gb234)); have n5_ := Aside0.mk ((by rw [hg]; exact Nat.ne_of_lt (blk_lt (g := gb233) (o := .cells #[.int .u8 a0_0, .string a0_1, .slice A0_2 l0_2.length c0_2, .slice A0_3 l0_3.length c0_3, .slice A0_4 l0_4.length c0_4] 26 (0, 0)) (by (with_reducible repeat (first | refine blk_drewN ?_ _ | refine blk_drew ?_ | refine blk_alloc ?_ _)); exact BK233.out)) : gb233 ≠ gb234)); have n6_ := Aside0.mk ((by rw [hg]; exact Nat.ne_of_gt (blk_lt (g := gb233) (o := .cells #[.int .u8 a0_0, .string a0_1, .slice A0_2 l0_2.length c0_2, .slice A0_3 l0_3.length c0_3, .slice A0_4 l0_4.length c0_4] 26 (0, 0)) (by (with_reducible repeat (first | refine blk_drewN ?_ _ | refine blk_drew ?_ | refine blk_alloc ?_ _)); exact BK233.out)) : gb234 ≠ gb233)); clear BK233; clear HB; have BK233 := n0_; have HB := n1_; have BK234 := n2_; have GW234 := n3_; have GE234 := n4_; have NB233_234 := n5_; have NB234_233 := n6_; clear n0_ n1_ n2_ n3_ n4_ n5_ n6_; clear hb hbox hg; have hnb7 := NB233_234.out; have hnc7 := NB234_233.out; have hcz8_0 : w6.cell? ⟨gb233, 0, none⟩ = some (.int .u8 a0_0) := (blk_cell BK233.out 0).trans rfl; have hcz8_1 : w6.cell? ⟨gb233, 1, none⟩ = some (.string a0_1) := (blk_cell BK233.out 1).trans rfl; have hcz8_2 : w6.cell? ⟨gb233, 2, none⟩ = some (.slice A0_2 l0_2.length c0_2) := (blk_cell BK233.out 2).trans rfl; have hcz8_3 : w6.cell? ⟨gb233, 3, none⟩ = some (.slice A0_3 l0_3.length c0_3) := (blk_cell BK233.out 3).trans rfl; have hcz8_4 : w6.cell? ⟨gb233, 4, none⟩ = some (.slice A0_4 l0_4.length c0_4) := (blk_cell BK233.out 4).trans rfl; have hfz8_0 := blk_frozen BK233.out 0; have hfz8_1 := blk_frozen BK233.out 1; have hfz8_2 := blk_frozen BK233.out 2; have hfz8_3 := blk_frozen BK233.out 3; have hfz8_4 := blk_frozen BK233.out 4; have hcz9_0 : w6.cell? ⟨gb234, 0, none⟩ = some (.int .u8 a1_0) := (blk_cell BK234.out 0).trans rfl; have hcz9_1 : w6.cell? ⟨gb234, 1, none⟩ = some (.string a1_1) := (blk_cell BK234.out 1).trans rfl; have hcz9_2 : w6.cell? ⟨gb234, 2, none⟩ = some (.slice A1_2 l1_2.length c1_2) := (blk_cell BK234.out 2).trans rfl; have hcz9_3 : w6.cell? ⟨gb234, 3, none⟩ = some (.slice A1_3 l1_3.length c1_3) := (blk_cell BK234.out 3).trans rfl; have hcz9_4 : w6.cell? ⟨gb234, 4, none⟩ = some (.slice A1_4 l1_4.length c1_4) := (blk_cell BK234.out 4).trans rfl; have hfz9_0 := blk_frozen BK234.out 0; have hfz9_1 := blk_frozen BK234.out 1; have hfz9_2 := blk_frozen BK234.out 2; have hfz9_3 := blk_frozen BK234.out 3; have hfz9_4 := blk_frozen BK234.out 4) | (go_at_call 31; (with_reducible refine (tipstaffref01_Texts.calls k _ _ l0_2 _ _ l1_2 t235 _ ?side1 ?side2 ?side3 ?side4 A3.out).mono ?_); (case side1 => repeat (first | exact (Kd.C_below HR0_2.out HB.out) | (with_reducible refine Kd.C_alloc ?_ _) | (with_reducible refine Kd.C_drewN ?_ _) | (with_reducible refine Kd.C_drew ?_))); (case side2 => exact HC0_2.out); (case side3 => repeat (first | exact (Kd.C_below HR1_2.out HB.out) | (with_reducible refine Kd.C_alloc ?_ _) | (with_reducible refine Kd.C_drewN ?_ _) | (with_reducible refine Kd.C_drew ?_))); (case side4 => exact HC1_2.out); rintro e w' ⟨rfl, ⟨nd, rfl⟩⟩; (try first | exact ⟨rfl, _, World.drewN_drewN _ _ _⟩ | exact ⟨rfl, _, Eq.trans (World.drewN_drewN _ _ _) (congrArg (World.drewN _) (Nat.add_assoc _ _ _))⟩)))
  repeat (go_quiet (first | ((with_reducible refine gate_dst (N := 2) rfl ?_); (try (refine gate_guard (by rfl) ?_; dsimp only)); refine box_event ?hg (N := 2) ?hd (cs := #[.int .u8 a0_0, .string a0_1, .slice A0_2 l0_2.length c0_2, .slice A0_3 l0_3.length c0_3, .slice A0_4 l0_4.length c0_4]) (t := 26) ?hr ?_; (case hd => rfl); (case hg => rfl); (case hr => first | (go_simp; done) | (go_simp; rfl)); intro gb233 hg w5 hbox hb; have n0_ := Aside0.mk (below_step (by repeat (first | (with_reducible first | exact HB.out | apply below_alloc | apply pw_below_drewN | apply below_drew1) | exact HB.out)) hb); have n1_ := Aside0.mk (hbox); have n2_ := Aside0.mk ((by rw [hg]; exact (below_size (by repeat (first | (with_reducible first | exact HB.out | apply below_alloc | apply pw_below_drewN | apply below_drew1) | exact HB.out))) : w.heap.size ≤ gb233)); have n3_ := Aside0.mk ((by rw [hg]; exact (below_size (by repeat (first | (with_reducible first | exact HB.out | apply below_alloc | apply pw_below_drewN | apply below_drew1) | exact HB.out))) : w.heap.size ≤ gb233)); clear HB; have HB := n0_; have BK233 := n1_; have GW233 := n2_; have GE233 := n3_; clear n0_ n1_ n2_ n3_; clear hb hbox hg) | ((with_reducible refine gate_dst (N := 3) rfl ?_); (try (refine gate_guard (by rfl) ?_; dsimp only)); refine box_event ?hg (N := 3) ?hd (cs := #[.int .u8 a1_0, .string a1_1, .slice A1_2 l1_2.length c1_2, .slice A1_3 l1_3.length c1_3, .slice A1_4 l1_4.length c1_4]) (t := 26) ?hr ?_; (case hd => rfl); (case hg => rfl); (case hr => first | (go_simp; done) | (go_simp; rfl)); intro gb234 hg w6 hbox hb; have n0_ := Aside0.mk (blk_below (g := gb233) (o := .cells #[.int .u8 a0_0, .string a0_1, .slice A0_2 l0_2.length c0_2, .slice A0_3 l0_3.length c0_3, .slice A0_4 l0_4.length c0_4] 26 (0, 0)) (by (with_reducible repeat (first | refine blk_drewN ?_ _ | refine blk_drew ?_ | refine blk_alloc ?_ _)); exact BK233.out) hb); have n1_ := Aside0.mk (below_step (by repeat (first | (with_reducible first | exact HB.out | apply below_alloc | apply pw_below_drewN | apply below_drew1 | refine below_set ?_ GE233.out) | exact HB.out)) hb); have n2_ := Aside0.mk (hbox); have n3_ := Aside0.mk ((by rw [hg]; exact (below_size (by repeat (first | (with_reducible first | exact HB.out | apply below_alloc | apply pw_below_drewN | apply below_drew1 | refine below_set ?_ GE233.out) | exact HB.out))) : w.heap.size ≤ gb234)); have n4_ := Aside0.mk ((by rw [hg]; exact (below_size (by repeat (first | (with_reducible first | exact HB.out | apply below_alloc | apply pw_below_drewN | apply below_drew1 | refine below_set ?_ GE233.out) | exact HB.out))) : w.heap.size ≤ gb234)); have n5_ := Aside0.mk ((by rw [hg]; exact Nat.ne_of_lt (blk_lt (g := gb233) (o := .cells #[.int .u8 a0_0, .string a0_1, .slice A0_2 l0_2.length c0_2, .slice A0_3 l0_3.length c0_3, .slice A0_4 l0_4.length c0_4] 26 (0, 0)) (by (with_reducible repeat (first | refine blk_drewN ?_ _ | refine blk_drew ?_ | refine blk_alloc ?_ _)); exact BK233.out)) : gb233 ≠ gb234)); have n6_ := Aside0.mk ((by rw [hg]; exact Nat.ne_of_gt (blk_lt (g := gb233) (o := .cells #[.int .u8 a0_0, .string a0_1, .slice A0_2 l0_2.length c0_2, .slice A0_3 l0_3.length c0_3, .slice A0_4 l0_4.length c0_4] 26 (0, 0)) (by (with_reducible repeat (first | refine blk_drewN ?_ _ | refine blk_drew ?_ | refine blk_alloc ?_ _)); exact BK233.out)) : gb234 ≠ gb233)); clear BK233; clear HB; have BK233 := n0_; have HB := n1_; have BK234 := n2_; have GW234 := n3_; have GE234 := n4_; have NB233_234 := n5_; have NB234_233 := n6_; clear n0_ n1_ n2_ n3_ n4_ n5_ n6_; clear hb hbox hg; have hnb7 := NB233_234.out; have hnc7 := NB234_233.out; have hcz8_0 : w6.cell? ⟨gb233, 0, none⟩ = some (.int .u8 a0_0) := (blk_cell BK233.out 0).trans rfl; have hcz8_1 : w6.cell? ⟨gb233, 1, none⟩ = some (.string a0_1) := (blk_cell BK233.out 1).trans rfl; have hcz8_2 : w6.cell? ⟨gb233, 2, none⟩ = some (.slice A0_2 l0_2.length c0_2) := (blk_cell BK233.out 2).trans rfl; have hcz8_3 : w6.cell? ⟨gb233, 3, none⟩ = some (.slice A0_3 l0_3.length c0_3) := (blk_cell BK233.out 3).trans rfl; have hcz8_4 : w6.cell? ⟨gb233, 4, none⟩ = some (.slice A0_4 l0_4.length c0_4) := (blk_cell BK233.out 4).trans rfl; have hfz8_0 := blk_frozen BK233.out 0; have hfz8_1 := blk_frozen BK233.out 1; have hfz8_2 := blk_frozen BK233.out 2; have hfz8_3 := blk_frozen BK233.out 3; have hfz8_4 := blk_frozen BK233.out 4; have hcz9_0 : w6.cell? ⟨gb234, 0, none⟩ = some (.int .u8 a1_0) := (blk_cell BK234.out 0).trans rfl; have hcz9_1 : w6.cell? ⟨gb234, 1, none⟩ = some (.string a1_1) := (blk_cell BK234.out 1).trans rfl; have hcz9_2 : w6.cell? ⟨gb234, 2, none⟩ = some (.slice A1_2 l1_2.length c1_2) := (blk_cell BK234.out 2).trans rfl; have hcz9_3 : w6.cell? ⟨gb234, 3, none⟩ = some (.slice A1_3 l1_3.length c1_3) := (blk_cell BK234.out 3).trans rfl; have hcz9_4 : w6.cell? ⟨gb234, 4, none⟩ = some (.slice A1_4 l1_4.length c1_4) := (blk_cell BK234.out 4).trans rfl; have hfz9_0 := blk_frozen BK234.out 0; have hfz9_1 := blk_frozen BK234.out 1; have hfz9_2 := blk_frozen BK234.out 2; have hfz9_3 := blk_frozen BK234.out 3; have hfz9_4 := blk_frozen BK234.out 4) | (go_at_call 31; (with_reducible refine (tipstaffref01_Texts.calls k _ _ l0_2 _ _ l1_2 t235 _ ?side1 ?side2 ?side3 ?side4 A3.out).mono ?_); (case side1 => repeat (first | exact (Kd.C_below HR0_2.out HB.out) | (with_reducible refine Kd.C_alloc ?_ _) | (with_reducible refine Kd.C_drewN ?_ _) | (with_reducible refine Kd.C_drew ?_))); (case side2 => exact HC0_2.out); (case side3 => repeat (first | exact (Kd.C_below HR1_2.out HB.out) | (with_reducible refine Kd.C_alloc ?_ _) | (with_reducible refine Kd.C_drewN ?_ _) | (with_reducible refine Kd.C_drew ?_))); (case side4 => exact HC1_2.out); rintro e w' ⟨rfl, ⟨nd, rfl⟩⟩; (try first | exact ⟨rfl, _, World.drewN_drewN _ _ _⟩ | exact ⟨rfl, _, Eq.trans (World.drewN_drewN _ _ _) (congrArg (World.drewN _) (Nat.add_assoc _ _ _))⟩))); go_upto_region 2 with (first | ((with_reducible refine gate_dst (N := 2) rfl ?_); (try (refine gate_guard (by rfl) ?_; dsimp only)); refine box_event ?hg (N := 2) ?hd (cs := #[.int .u8 a0_0, .string a0_1, .slice A0_2 l0_2.length c0_2, .slice A0_3 l0_3.length c0_3, .slice A0_4 l0_4.length c0_4]) (t := 26) ?hr ?_; (case hd => rfl); (case hg => rfl); (case hr => first | (go_simp; done) | (go_simp; rfl)); intro gb233 hg w5 hbox hb; have n0_ := Aside0.mk (below_step (by repeat (first | (with_reducible first | exact HB.out | apply below_alloc | apply pw_below_drewN | apply below_drew1) | exact HB.out)) hb); have n1_ := Aside0.mk (hbox); have n2_ := Aside0.mk ((by rw [hg]; exact (below_size (by repeat (first | (with_reducible first | exact HB.out | apply below_alloc | apply pw_below_drewN | apply below_drew1) | exact HB.out))) : w.heap.size ≤ gb233)); have n3_ := Aside0.mk ((by rw [hg]; exact (below_size (by repeat (first | (with_reducible first | exact HB.out | apply below_alloc | apply pw_below_drewN | apply below_drew1) | exact HB.out))) : w.heap.size ≤ gb233)); clear HB; have HB := n0_; have BK233 := n1_; have GW233 := n2_; have GE233 := n3_; clear n0_ n1_ n2_ n3_; clear hb hbox hg) | ((with_reducible refine gate_dst (N := 3) rfl ?_); (try (refine gate_guard (by rfl) ?_; dsimp only)); refine box_event ?hg (N := 3) ?hd (cs := #[.int .u8 a1_0, .string a1_1, .slice A1_2 l1_2.length c1_2, .slice A1_3 l1_3.length c1_3, .slice A1_4 l1_4.length c1_4]) (t := 26) ?hr ?_; (case hd => rfl); (case hg => rfl); (case hr => first | (go_simp; done) | (go_simp; rfl)); intro gb234 hg w6 hbox hb; have n0_ := Aside0.mk (blk_below (g := gb233) (o := .cells #[.int .u8 a0_0, .string a0_1, .slice A0_2 l0_2.length c0_2, .slice A0_3 l0_3.length c0_3, .slice A0_4 l0_4.length c0_4] 26 (0, 0)) (by (with_reducible repeat (first | refine blk_drewN ?_ _ | refine blk_drew ?_ | refine blk_alloc ?_ _)); exact BK233.out) hb); have n1_ := Aside0.mk (below_step (by repeat (first | (with_reducible first | exact HB.out | apply below_alloc | apply pw_below_drewN | apply below_drew1 | refine below_set ?_ GE233.out) | exact HB.out)) hb); have n2_ := Aside0.mk (hbox); have n3_ := Aside0.mk ((by rw [hg]; exact (below_size (by repeat (first | (with_reducible first | exact HB.out | apply below_alloc | apply pw_below_drewN | apply below_drew1 | refine below_set ?_ GE233.out) | exact HB.out))) : w.heap.size ≤ gb234)); have n4_ := Aside0.mk ((by rw [hg]; exact (below_size (by repeat (first | (with_reducible first | exact HB.out | apply below_alloc | apply pw_below_drewN | apply below_drew1 | refine below_set ?_ GE233.out) | exact HB.out))) : w.heap.size ≤ gb234)); have n5_ := Aside0.mk ((by rw [hg]; exact Nat.ne_of_lt (blk_lt (g := gb233) (o := .cells #[.int .u8 a0_0, .string a0_1, .slice A0_2 l0_2.length c0_2, .slice A0_3 l0_3.length c0_3, .slice A0_4 l0_4.length c0_4] 26 (0, 0)) (by (with_reducible repeat (first | refine blk_drewN ?_ _ | refine blk_drew ?_ | refine blk_alloc ?_ _)); exact BK233.out)) : gb233 ≠ gb234)); have n6_ := Aside0.mk ((by rw [hg]; exact Nat.ne_of_gt (blk_lt (g := gb233) (o := .cells #[.int .u8 a0_0, .string a0_1, .slice A0_2 l0_2.length c0_2, .slice A0_3 l0_3.length c0_3, .slice A0_4 l0_4.length c0_4] 26 (0, 0)) (by (with_reducible repeat (first | refine blk_drewN ?_ _ | refine blk_drew ?_ | refine blk_alloc ?_ _)); exact BK233.out)) : gb234 ≠ gb233)); clear BK233; clear HB; have BK233 := n0_; have HB := n1_; have BK234 := n2_; have GW234 := n3_; have GE234 := n4_; have NB233_234 := n5_; have NB234_233 := n6_; clear n0_ n1_ n2_ n3_ n4_ n5_ n6_; clear hb hbox hg; have hnb7 := NB233_234.out; have hnc7 := NB234_233.out; have hcz8_0 : w6.cell? ⟨gb233, 0, none⟩ = some (.int .u8 a0_0) := (blk_cell BK233.out 0).trans rfl; have hcz8_1 : w6.cell? ⟨gb233, 1, none⟩ = some (.string a0_1) := (blk_cell BK233.out 1).trans rfl; have hcz8_2 : w6.cell? ⟨gb233, 2, none⟩ = some (.slice A0_2 l0_2.length c0_2) := (blk_cell BK233.out 2).trans rfl; have hcz8_3 : w6.cell? ⟨gb233, 3, none⟩ = some (.slice A0_3 l0_3.length c0_3) := (blk_cell BK233.out 3).trans rfl; have hcz8_4 : w6.cell? ⟨gb233, 4, none⟩ = some (.slice A0_4 l0_4.length c0_4) := (blk_cell BK233.out 4).trans rfl; have hfz8_0 := blk_frozen BK233.out 0; have hfz8_1 := blk_frozen BK233.out 1; have hfz8_2 := blk_frozen BK233.out 2; have hfz8_3 := blk_frozen BK233.out 3; have hfz8_4 := blk_frozen BK233.out 4; have hcz9_0 : w6.cell? ⟨gb234, 0, none⟩ = some (.int .u8 a1_0) := (blk_cell BK234.out 0).trans rfl; have hcz9_1 : w6.cell? ⟨gb234, 1, none⟩ = some (.string a1_1) := (blk_cell BK234.out 1).trans rfl; have hcz9_2 : w6.cell? ⟨gb234, 2, none⟩ = some (.slice A1_2 l1_2.length c1_2) := (blk_cell BK234.out 2).trans rfl; have hcz9_3 : w6.cell? ⟨gb234, 3, none⟩ = some (.slice A1_3 l1_3.length c1_3) := (blk_cell BK234.out 3).trans rfl; have hcz9_4 : w6.cell? ⟨gb234, 4, none⟩ = some (.slice A1_4 l1_4.length c1_4) := (blk_cell BK234.out 4).trans rfl; have hfz9_0 := blk_frozen BK234.out 0; have hfz9_1 := blk_frozen BK234.out 1; have hfz9_2 := blk_frozen BK234.out 2; have hfz9_3 := blk_frozen BK234.out 3; have hfz9_4 := blk_frozen BK234.out 4) | (go_at_call 31; (with_reducible refine (tipstaffref01_Texts.calls k _ _ l0_2 _ _ l1_2 t235 _ ?side1 ?side2 ?side3 ?side4 A3.out).mono ?_); (case side1 => repeat (first | exact (Kd.C_below HR0_2.out HB.out) | (with_reducible refine Kd.C_alloc ?_ _) | (with_reducible refine Kd.C_drewN ?_ _) | (with_reducible refine Kd.C_drew ?_))); (case side2 => exact HC0_2.out); (case side3 => repeat (first | exact (Kd.C_below HR1_2.out HB.out) | (with_reducible refine Kd.C_alloc ?_ _) | (with_reducible refine Kd.C_drewN ?_ _) | (with_reducible refine Kd.C_drew ?_))); (case side4 => exact HC1_2.out); rintro e w' ⟨rfl, ⟨nd, rfl⟩⟩; (try first | exact ⟨rfl, _, World.drewN_drewN _ _ _⟩ | exact ⟨rfl, _, Eq.trans (World.drewN_drewN _ _ _) (congrArg (World.drewN _) (Nat.add_assoc _ _ _))⟩))))
  (try simp only [Act.put, List.setIfInBounds_toArray, List.set_cons_zero, List.set_cons_succ])
  go_cut [46] (fun v46 wc => ∃ (kq : Nat) (x46_3 : Bool), v46 = .bool x46_3 ∧ Aside0 (tipstaffref09_Same.j0 kq x46_3 a0_0 a0_1 l0_2 l0_3 l0_4 a1_0 a1_1 l1_2 l1_3 l1_4 = some r) ∧ Aside0 (kq ≤ k) ∧ Aside0 (wc.heap[gb233]? = some (.cells #[.int .u8 a0_0, .string a0_1, (.slice A0_2 l0_2.length c0_2), (.slice A0_3 l0_3.length c0_3), (.slice A0_4 l0_4.length c0_4)] 26 (0, 0))) ∧ Aside0 (wc.heap[gb234]? = some (.cells #[.int .u8 a1_0, .string a1_1, (.slice A1_2 l1_2.length c1_2), (.slice A1_3 l1_3.length c1_3), (.slice A1_4 l1_4.length c1_4)] 26 (0, 0))) ∧ Aside0 (Below w.heap.size w wc))
  case first =>
    have H := HC4.out
    clear HC4
    by_cases c10 : a0_0 = a1_0
    · rw [if_pos c10] at H
      have c10b0 : (a0_0 == a1_0) = true := beq_iff_eq.mpr c10
      have c10b1 : (a0_0 != a1_0) = false := bne_eq_false_iff_eq.mpr c10
      clear c10
      (first | rw [c10b0] | (simp only [i64_w, i32_w]; rw [c10b0]) | skip)
      by_cases c11 : a0_1.toList = a1_1.toList
      · rw [if_pos c11] at H
        have c11b0 : (a0_1.toList == a1_1.toList) = true := beq_iff_eq.mpr c11
        have c11b1 : (a0_1.toList != a1_1.toList) = false := bne_eq_false_iff_eq.mpr c11
        clear c11
        by_cases c12 : t235 = true
        · subst c12
          have H1 : (if (l0_3.length : Int) = (l1_3.length : Int) then (tipstaffref09_Same.j0 k ((l0_4.length : Int) != (l1_4.length : Int)) a0_0 a0_1 l0_2 l0_3 l0_4 a1_0 a1_1 l1_2 l1_3 l1_4) else (tipstaffref09_Same.j0 k true a0_0 a0_1 l0_2 l0_3 l0_4 a1_0 a1_1 l1_2 l1_3 l1_4)) = some r := by rw [if_pos rfl] at H; exact H
          clear H
          have H := H1
          clear H1
          by_cases c13 : (l0_3.length : Int) = (l1_3.length : Int)
          · rw [if_pos c13] at H
            have c13b0 : ((l0_3.length : Int) == (l1_3.length : Int)) = true := beq_iff_eq.mpr c13
            have c13b1 : ((l0_3.length : Int) != (l1_3.length : Int)) = false := bne_eq_false_iff_eq.mpr c13
            have c13b2 : (l0_3.length == l1_3.length) = true := by first | (first | exact c13 | (simp; done) | (have h_ := c13; simp at h_; done) | (have h_ := c13; simp at h_ ⊢; first | done | exact h_)) | (simp at c13 ⊢; omega)
            clear c13
            have H' := Aside0.mk H
            clear H
            have hnb14 := NB233_234.out
            have hnc14 := NB234_233.out
            have hcz15_0 : w6.cell? ⟨gb233, 0, none⟩ = some (.int .u8 a0_0) := (blk_cell BK233.out 0).trans rfl
            have hcz15_1 : w6.cell? ⟨gb233, 1, none⟩ = some (.string a0_1) := (blk_cell BK233.out 1).trans rfl
            have hcz15_2 : w6.cell? ⟨gb233, 2, none⟩ = some (.slice A0_2 l0_2.length c0_2) := (blk_cell BK233.out 2).trans rfl
            have hcz15_3 : w6.cell? ⟨gb233, 3, none⟩ = some (.slice A0_3 l0_3.length c0_3) := (blk_cell BK233.out 3).trans rfl
            have hcz15_4 : w6.cell? ⟨gb233, 4, none⟩ = some (.slice A0_4 l0_4.length c0_4) := (blk_cell BK233.out 4).trans rfl
            have hfz15_0 := blk_frozen BK233.out 0
            have hfz15_1 := blk_frozen BK233.out 1
            have hfz15_2 := blk_frozen BK233.out 2
            have hfz15_3 := blk_frozen BK233.out 3
            have hfz15_4 := blk_frozen BK233.out 4
            have hcz16_0 : w6.cell? ⟨gb234, 0, none⟩ = some (.int .u8 a1_0) := (blk_cell BK234.out 0).trans rfl
            have hcz16_1 : w6.cell? ⟨gb234, 1, none⟩ = some (.string a1_1) := (blk_cell BK234.out 1).trans rfl
            have hcz16_2 : w6.cell? ⟨gb234, 2, none⟩ = some (.slice A1_2 l1_2.length c1_2) := (blk_cell BK234.out 2).trans rfl
            have hcz16_3 : w6.cell? ⟨gb234, 3, none⟩ = some (.slice A1_3 l1_3.length c1_3) := (blk_cell BK234.out 3).trans rfl
            have hcz16_4 : w6.cell? ⟨gb234, 4, none⟩ = some (.slice A1_4 l1_4.length c1_4) := (blk_cell BK234.out 4).trans rfl
            have hfz16_0 := blk_frozen BK234.out 0
            have hfz16_1 := blk_frozen BK234.out 1
            have hfz16_2 := blk_frozen BK234.out 2
            have hfz16_3 := blk_frozen BK234.out 3
            have hfz16_4 := blk_frozen BK234.out 4
            go_wp2
            repeat (go_quiet (fail); try go_wp2)
            go_meet
            case rel => exact ⟨_, (((l0_4.length : Int) != (l1_4.length : Int))), (by first | rfl | (simp; done) | (simp [*]; done)), H', ⟨by first | omega | exact Nat.le_refl _⟩, ⟨by (with_reducible repeat (first | refine blk_drewN ?_ _ | refine blk_drew ?_ | refine blk_alloc ?_ _)); exact BK233.out⟩, ⟨by (with_reducible repeat (first | refine blk_drewN ?_ _ | refine blk_drew ?_ | refine blk_alloc ?_ _)); exact BK234.out⟩, ⟨by repeat (first | (with_reducible first | exact HB.out | apply below_alloc | apply pw_below_drewN | apply below_drew1 | refine below_set ?_ GE233.out | refine below_set ?_ GE234.out) | exact HB.out)⟩⟩
          · rw [if_neg c13] at H
            have c13b0 : ((l0_3.length : Int) == (l1_3.length : Int)) = false := beq_eq_false_iff_ne.mpr c13
            have c13b1 : ((l0_3.length : Int) != (l1_3.length : Int)) = true := bne_iff_ne.mpr c13
            have c13b2 : (l0_3.length == l1_3.length) = false := by first | (first | exact c13 | (simp; done) | (have h_ := c13; simp at h_; done) | (have h_ := c13; simp at h_ ⊢; first | done | exact h_)) | (simp at c13 ⊢; omega)
            have H' := Aside0.mk H
            clear H
            have hnb17 := NB233_234.out
            have hnc17 := NB234_233.out
            have hcz18_0 : w6.cell? ⟨gb233, 0, none⟩ = some (.int .u8 a0_0) := (blk_cell BK233.out 0).trans rfl
            have hcz18_1 : w6.cell? ⟨gb233, 1, none⟩ = some (.string a0_1) := (blk_cell BK233.out 1).trans rfl
            have hcz18_2 : w6.cell? ⟨gb233, 2, none⟩ = some (.slice A0_2 l0_2.length c0_2) := (blk_cell BK233.out 2).trans rfl
            have hcz18_3 : w6.cell? ⟨gb233, 3, none⟩ = some (.slice A0_3 l0_3.length c0_3) := (blk_cell BK233.out 3).trans rfl
            have hcz18_4 : w6.cell? ⟨gb233, 4, none⟩ = some (.slice A0_4 l0_4.length c0_4) := (blk_cell BK233.out 4).trans rfl
            have hfz18_0 := blk_frozen BK233.out 0
            have hfz18_1 := blk_frozen BK233.out 1
            have hfz18_2 := blk_frozen BK233.out 2
            have hfz18_3 := blk_frozen BK233.out 3
            have hfz18_4 := blk_frozen BK233.out 4
            have hcz19_0 : w6.cell? ⟨gb234, 0, none⟩ = some (.int .u8 a1_0) := (blk_cell BK234.out 0).trans rfl
            have hcz19_1 : w6.cell? ⟨gb234, 1, none⟩ = some (.string a1_1) := (blk_cell BK234.out 1).trans rfl
            have hcz19_2 : w6.cell? ⟨gb234, 2, none⟩ = some (.slice A1_2 l1_2.length c1_2) := (blk_cell BK234.out 2).trans rfl
            have hcz19_3 : w6.cell? ⟨gb234, 3, none⟩ = some (.slice A1_3 l1_3.length c1_3) := (blk_cell BK234.out 3).trans rfl
            have hcz19_4 : w6.cell? ⟨gb234, 4, none⟩ = some (.slice A1_4 l1_4.length c1_4) := (blk_cell BK234.out 4).trans rfl
            have hfz19_0 := blk_frozen BK234.out 0
            have hfz19_1 := blk_frozen BK234.out 1
            have hfz19_2 := blk_frozen BK234.out 2
            have hfz19_3 := blk_frozen BK234.out 3
            have hfz19_4 := blk_frozen BK234.out 4
            go_wp2
            repeat (go_quiet (fail); try go_wp2)
            go_meet
            case rel => exact ⟨_, (true), (by first | rfl | (simp; done) | (simp [*]; done)), H', ⟨by first | omega | exact Nat.le_refl _⟩, ⟨by (with_reducible repeat (first | refine blk_drewN ?_ _ | refine blk_drew ?_ | refine blk_alloc ?_ _)); exact BK233.out⟩, ⟨by (with_reducible repeat (first | refine blk_drewN ?_ _ | refine blk_drew ?_ | refine blk_alloc ?_ _)); exact BK234.out⟩, ⟨by repeat (first | (with_reducible first | exact HB.out | apply below_alloc | apply pw_below_drewN | apply below_drew1 | refine below_set ?_ GE233.out | refine below_set ?_ GE234.out) | exact HB.out)⟩⟩
        · replace c12 := Bool.eq_false_iff.mpr c12
          subst c12
          have H1 : (tipstaffref09_Same.j0 k true a0_0 a0_1 l0_2 l0_3 l0_4 a1_0 a1_1 l1_2 l1_3 l1_4) = some r := by rw [if_neg (show ¬ (false = true) by decide)] at H; exact H
          clear H
          have H := H1
          clear H1
          have H' := Aside0.mk H
          clear H
          have hnb20 := NB233_234.out
          have hnc20 := NB234_233.out
          have hcz21_0 : w6.cell? ⟨gb233, 0, none⟩ = some (.int .u8 a0_0) := (blk_cell BK233.out 0).trans rfl
          have hcz21_1 : w6.cell? ⟨gb233, 1, none⟩ = some (.string a0_1) := (blk_cell BK233.out 1).trans rfl
          have hcz21_2 : w6.cell? ⟨gb233, 2, none⟩ = some (.slice A0_2 l0_2.length c0_2) := (blk_cell BK233.out 2).trans rfl
          have hcz21_3 : w6.cell? ⟨gb233, 3, none⟩ = some (.slice A0_3 l0_3.length c0_3) := (blk_cell BK233.out 3).trans rfl
          have hcz21_4 : w6.cell? ⟨gb233, 4, none⟩ = some (.slice A0_4 l0_4.length c0_4) := (blk_cell BK233.out 4).trans rfl
          have hfz21_0 := blk_frozen BK233.out 0
          have hfz21_1 := blk_frozen BK233.out 1
          have hfz21_2 := blk_frozen BK233.out 2
          have hfz21_3 := blk_frozen BK233.out 3
          have hfz21_4 := blk_frozen BK233.out 4
          have hcz22_0 : w6.cell? ⟨gb234, 0, none⟩ = some (.int .u8 a1_0) := (blk_cell BK234.out 0).trans rfl
          have hcz22_1 : w6.cell? ⟨gb234, 1, none⟩ = some (.string a1_1) := (blk_cell BK234.out 1).trans rfl
          have hcz22_2 : w6.cell? ⟨gb234, 2, none⟩ = some (.slice A1_2 l1_2.length c1_2) := (blk_cell BK234.out 2).trans rfl
          have hcz22_3 : w6.cell? ⟨gb234, 3, none⟩ = some (.slice A1_3 l1_3.length c1_3) := (blk_cell BK234.out 3).trans rfl
          have hcz22_4 : w6.cell? ⟨gb234, 4, none⟩ = some (.slice A1_4 l1_4.length c1_4) := (blk_cell BK234.out 4).trans rfl
          have hfz22_0 := blk_frozen BK234.out 0
          have hfz22_1 := blk_frozen BK234.out 1
          have hfz22_2 := blk_frozen BK234.out 2
          have hfz22_3 := blk_frozen BK234.out 3
          have hfz22_4 := blk_frozen BK234.out 4
          go_wp2
          repeat (go_quiet (fail); try go_wp2)
          go_meet
          case rel => exact ⟨_, (true), (by first | rfl | (simp; done) | (simp [*]; done)), H', ⟨by first | omega | exact Nat.le_refl _⟩, ⟨by (with_reducible repeat (first | refine blk_drewN ?_ _ | refine blk_drew ?_ | refine blk_alloc ?_ _)); exact BK233.out⟩, ⟨by (with_reducible repeat (first | refine blk_drewN ?_ _ | refine blk_drew ?_ | refine blk_alloc ?_ _)); exact BK234.out⟩, ⟨by repeat (first | (with_reducible first | exact HB.out | apply below_alloc | apply pw_below_drewN | apply below_drew1 | refine below_set ?_ GE233.out | refine below_set ?_ GE234.out) | exact HB.out)⟩⟩
      · rw [if_neg c11] at H
        have c11b0 : (a0_1.toList == a1_1.toList) = false := beq_eq_false_iff_ne.mpr c11
        have c11b1 : (a0_1.toList != a1_1.toList) = true := bne_iff_ne.mpr c11
        have H' := Aside0.mk H
        clear H
        have hnb23 := NB233_234.out
        have hnc23 := NB234_233.out
        have hcz24_0 : w6.cell? ⟨gb233, 0, none⟩ = some (.int .u8 a0_0) := (blk_cell BK233.out 0).trans rfl
        have hcz24_1 : w6.cell? ⟨gb233, 1, none⟩ = some (.string a0_1) := (blk_cell BK233.out 1).trans rfl
        have hcz24_2 : w6.cell? ⟨gb233, 2, none⟩ = some (.slice A0_2 l0_2.length c0_2) := (blk_cell BK233.out 2).trans rfl
        have hcz24_3 : w6.cell? ⟨gb233, 3, none⟩ = some (.slice A0_3 l0_3.length c0_3) := (blk_cell BK233.out 3).trans rfl
        have hcz24_4 : w6.cell? ⟨gb233, 4, none⟩ = some (.slice A0_4 l0_4.length c0_4) := (blk_cell BK233.out 4).trans rfl
        have hfz24_0 := blk_frozen BK233.out 0
        have hfz24_1 := blk_frozen BK233.out 1
        have hfz24_2 := blk_frozen BK233.out 2
        have hfz24_3 := blk_frozen BK233.out 3
        have hfz24_4 := blk_frozen BK233.out 4
        have hcz25_0 : w6.cell? ⟨gb234, 0, none⟩ = some (.int .u8 a1_0) := (blk_cell BK234.out 0).trans rfl
        have hcz25_1 : w6.cell? ⟨gb234, 1, none⟩ = some (.string a1_1) := (blk_cell BK234.out 1).trans rfl
        have hcz25_2 : w6.cell? ⟨gb234, 2, none⟩ = some (.slice A1_2 l1_2.length c1_2) := (blk_cell BK234.out 2).trans rfl
        have hcz25_3 : w6.cell? ⟨gb234, 3, none⟩ = some (.slice A1_3 l1_3.length c1_3) := (blk_cell BK234.out 3).trans rfl
        have hcz25_4 : w6.cell? ⟨gb234, 4, none⟩ = some (.slice A1_4 l1_4.length c1_4) := (blk_cell BK234.out 4).trans rfl
        have hfz25_0 := blk_frozen BK234.out 0
        have hfz25_1 := blk_frozen BK234.out 1
        have hfz25_2 := blk_frozen BK234.out 2
        have hfz25_3 := blk_frozen BK234.out 3
        have hfz25_4 := blk_frozen BK234.out 4
        go_wp2
        repeat (go_quiet (fail); try go_wp2)
        go_meet
        case rel => exact ⟨_, (true), (by first | rfl | (simp; done) | (simp [*]; done)), H', ⟨by first | omega | exact Nat.le_refl _⟩, ⟨by (with_reducible repeat (first | refine blk_drewN ?_ _ | refine blk_drew ?_ | refine blk_alloc ?_ _)); exact BK233.out⟩, ⟨by (with_reducible repeat (first | refine blk_drewN ?_ _ | refine blk_drew ?_ | refine blk_alloc ?_ _)); exact BK234.out⟩, ⟨by repeat (first | (with_reducible first | exact HB.out | apply below_alloc | apply pw_below_drewN | apply below_drew1 | refine below_set ?_ GE233.out | refine below_set ?_ GE234.out) | exact HB.out)⟩⟩
    · rw [if_neg c10] at H
      have c10b0 : (a0_0 == a1_0) = false := beq_eq_false_iff_ne.mpr c10
      have c10b1 : (a0_0 != a1_0) = true := bne_iff_ne.mpr c10
      (first | rw [c10b0] | (simp only [i64_w, i32_w]; rw [c10b0]) | skip)
      have H' := Aside0.mk H
      clear H
      have hnb26 := NB233_234.out
      have hnc26 := NB234_233.out
      have hcz27_0 : w6.cell? ⟨gb233, 0, none⟩ = some (.int .u8 a0_0) := (blk_cell BK233.out 0).trans rfl
      have hcz27_1 : w6.cell? ⟨gb233, 1, none⟩ = some (.string a0_1) := (blk_cell BK233.out 1).trans rfl
      have hcz27_2 : w6.cell? ⟨gb233, 2, none⟩ = some (.slice A0_2 l0_2.length c0_2) := (blk_cell BK233.out 2).trans rfl
      have hcz27_3 : w6.cell? ⟨gb233, 3, none⟩ = some (.slice A0_3 l0_3.length c0_3) := (blk_cell BK233.out 3).trans rfl
      have hcz27_4 : w6.cell? ⟨gb233, 4, none⟩ = some (.slice A0_4 l0_4.length c0_4) := (blk_cell BK233.out 4).trans rfl
      have hfz27_0 := blk_frozen BK233.out 0
      have hfz27_1 := blk_frozen BK233.out 1
      have hfz27_2 := blk_frozen BK233.out 2
      have hfz27_3 := blk_frozen BK233.out 3
      have hfz27_4 := blk_frozen BK233.out 4
      have hcz28_0 : w6.cell? ⟨gb234, 0, none⟩ = some (.int .u8 a1_0) := (blk_cell BK234.out 0).trans rfl
      have hcz28_1 : w6.cell? ⟨gb234, 1, none⟩ = some (.string a1_1) := (blk_cell BK234.out 1).trans rfl
      have hcz28_2 : w6.cell? ⟨gb234, 2, none⟩ = some (.slice A1_2 l1_2.length c1_2) := (blk_cell BK234.out 2).trans rfl
      have hcz28_3 : w6.cell? ⟨gb234, 3, none⟩ = some (.slice A1_3 l1_3.length c1_3) := (blk_cell BK234.out 3).trans rfl
      have hcz28_4 : w6.cell? ⟨gb234, 4, none⟩ = some (.slice A1_4 l1_4.length c1_4) := (blk_cell BK234.out 4).trans rfl
      have hfz28_0 := blk_frozen BK234.out 0
      have hfz28_1 := blk_frozen BK234.out 1
      have hfz28_2 := blk_frozen BK234.out 2
      have hfz28_3 := blk_frozen BK234.out 3
      have hfz28_4 := blk_frozen BK234.out 4
      go_wp2
      repeat (go_quiet (fail); try go_wp2)
      go_meet
      case rel => exact ⟨_, (true), (by first | rfl | (simp; done) | (simp [*]; done)), H', ⟨by first | omega | exact Nat.le_refl _⟩, ⟨by (with_reducible repeat (first | refine blk_drewN ?_ _ | refine blk_drew ?_ | refine blk_alloc ?_ _)); exact BK233.out⟩, ⟨by (with_reducible repeat (first | refine blk_drewN ?_ _ | refine blk_drew ?_ | refine blk_alloc ?_ _)); exact BK234.out⟩, ⟨by repeat (first | (with_reducible first | exact HB.out | apply below_alloc | apply pw_below_drewN | apply below_drew1 | refine below_set ?_ GE233.out | refine below_set ?_ GE234.out) | exact HB.out)⟩⟩
  case rest =>
    clear HC4
    try clear c1
    try clear c2
    try clear p2
    try clear c7
    try clear c10
    try clear c10b0
    try clear c10b1
    try clear c11
    try clear c11b0
    try clear c11b1
    try clear c12
    try clear c13
    try clear c13b0
    try clear c13b1
    try clear c13b2
    try clear c14
    try clear c17
    try clear c20
    try clear c23
    try clear c24
    try clear c26
    try clear hcz15_0
    try clear hcz15_1
    try clear hcz15_2
    try clear hcz15_3
    try clear hcz15_4
    try clear hcz16_0
    try clear hcz16_1
    try clear hcz16_2
    try clear hcz16_3
    try clear hcz16_4
    try clear hcz18_0
    try clear hcz18_1
    try clear hcz18_2
    try clear hcz18_3
    try clear hcz18_4
    try clear hcz19_0
    try clear hcz19_1
    try clear hcz19_2
    try clear hcz19_3
    try clear hcz19_4
    try clear hcz21_0
    try clear hcz21_1
    try clear hcz21_2
    try clear hcz21_3
    try clear hcz21_4
    try clear hcz22_0
    try clear hcz22_1
    try clear hcz22_2
    try clear hcz22_3
    try clear hcz22_4
    try clear hcz24_0
    try clear hcz24_1
    try clear hcz24_2
    try clear hcz24_3
    try clear hcz24_4
    try clear hcz25_0
    try clear hcz25_1
    try clear hcz25_2
    try clear hcz25_3
    try clear hcz25_4
    try clear hcz27_0
    try clear hcz27_1
    try clear hcz27_2
    try clear hcz27_3
    try clear hcz27_4
    try clear hcz28_0
    try clear hcz28_1
    try clear hcz28_2
    try clear hcz28_3
    try clear hcz28_4
    try clear hcz8_0
    try clear hcz8_1
    try clear hcz8_2
    try clear hcz8_3
    try clear hcz8_4
    try clear hcz9_0
    try clear hcz9_1
    try clear hcz9_2
    try clear hcz9_3
    try clear hcz9_4
    try clear hfz15_0
    try clear hfz15_1
    try clear hfz15_2
    try clear hfz15_3
    try clear hfz15_4
    try clear hfz16_0
    try clear hfz16_1
    try clear hfz16_2
    try clear hfz16_3
    try clear hfz16_4
    try clear hfz18_0
    try clear hfz18_1
    try clear hfz18_2
    try clear hfz18_3
    try clear hfz18_4
    try clear hfz19_0
    try clear hfz19_1
    try clear hfz19_2
    try clear hfz19_3
    try clear hfz19_4
    try clear hfz21_0
    try clear hfz21_1
    try clear hfz21_2
    try clear hfz21_3
    try clear hfz21_4
    try clear hfz22_0
    try clear hfz22_1
    try clear hfz22_2
    try clear hfz22_3
    try clear hfz22_4
    try clear hfz24_0
    try clear hfz24_1
    try clear hfz24_2
    try clear hfz24_3
    try clear hfz24_4
    try clear hfz25_0
    try clear hfz25_1
    try clear hfz25_2
    try clear hfz25_3
    try clear hfz25_4
    try clear hfz27_0
    try clear hfz27_1
    try clear hfz27_2
    try clear hfz27_3
    try clear hfz27_4
    try clear hfz28_0
    try clear hfz28_1
    try clear hfz28_2
    try clear hfz28_3
    try clear hfz28_4
    try clear hfz8_0
    try clear hfz8_1
    try clear hfz8_2
    try clear hfz8_3
    try clear hfz8_4
    try clear hfz9_0
    try clear hfz9_1
    try clear hfz9_2
    try clear hfz9_3
    try clear hfz9_4
    obtain ⟨kq, x46_3, rfl, HA, HJ3, BK233, BK234, HB⟩ := hcut
    cases kq with
    | zero => exact absurd HA.out (by simp [tipstaffref09_Same.j0])
    | succ kj3 =>
      have H := HA.out
      clear HA
      simp only [tipstaffref09_Same.j0] at H
      by_cases c29 : x46_3 = true
      · subst c29
        have H1 : (some false) = some r := by rw [if_pos rfl] at H; exact H
        clear H
        have H := H1
        clear H1
        obtain rfl := Option.some.inj H
        go_wp2
        repeat (go_quiet (fail); try go_wp2)
        all_goals go_ret
        all_goals exact ⟨by first | rfl | (simp [errW_none, errW_some] <;> rfl) | (simp [*, errW_none, errW_some] <;> rfl), by repeat (first | (with_reducible first | exact HB.out | apply below_alloc | apply pw_below_drewN | apply below_drew1 | refine below_set ?_ GE233.out | refine below_set ?_ GE234.out) | exact HB.out)⟩
      · replace c29 := Bool.eq_false_iff.mpr c29
        subst c29
        have H1 : (tipstaffref09_Same.l0 kj3 0 a0_0 a0_1 l0_2 l0_3 l0_4 a1_0 a1_1 l1_2 l1_3 l1_4) = some r := by rw [if_neg (show ¬ (false = true) by decide)] at H; exact H
        clear H
        have H := H1
        clear H1
        have H' := Aside0.mk H
        clear H
        go_wp2
        repeat (go_quiet (fail); try go_wp2)
        go_loopg [6] kj3 (fun kq v6 w' => ∃ (x6_2 : Int), v6 = .int .i64 x6_2 ∧ Aside0 (tipstaffref09_Same.l0 kq x6_2 a0_0 a0_1 l0_2 l0_3 l0_4 a1_0 a1_1 l1_2 l1_3 l1_4 = some r) ∧ Aside0 (kq ≤ kj3) ∧ Aside0 (w'.heap[gb233]? = some (.cells #[.int .u8 a0_0, .string a0_1, (.slice A0_2 l0_2.length c0_2), (.slice A0_3 l0_3.length c0_3), (.slice A0_4 l0_4.length c0_4)] 26 (0, 0))) ∧ Aside0 (w'.heap[gb234]? = some (.cells #[.int .u8 a1_0, .string a1_1, (.slice A1_2 l1_2.length c1_2), (.slice A1_3 l1_3.length c1_3), (.slice A1_4 l1_4.length c1_4)] 26 (0, 0))) ∧ Aside0 (Below w.heap.size w w'))
        case atStart => exact ⟨(0), (by first | rfl | (simp; done) | (simp [*]; done)), H', ⟨Nat.le_refl _⟩, ⟨by (with_reducible repeat (first | refine blk_drewN ?_ _ | refine blk_drew ?_ | refine blk_alloc ?_ _)); exact BK233.out⟩, ⟨by (with_reducible repeat (first | refine blk_drewN ?_ _ | refine blk_drew ?_ | refine blk_alloc ?_ _)); exact BK234.out⟩, ⟨by repeat (first | (with_reducible first | exact HB.out | apply below_alloc | apply pw_below_drewN | apply below_drew1 | refine below_set ?_ GE233.out | refine below_set ?_ GE234.out) | exact HB.out)⟩⟩
        case round =>
          clear H'
          try clear c1
          try clear c2
          try clear p2
          try clear c7
          try clear c10
          try clear c10b0
          try clear c10b1
          try clear c11
          try clear c11b0
          try clear c11b1
          try clear c12
          try clear c13
          try clear c13b0
          try clear c13b1
          try clear c13b2
          try clear c14
          try clear c17
          try clear c20
          try clear c23
          try clear c24
          try clear c26
          try clear c29
          try clear hcz15_0
          try clear hcz15_1
          try clear hcz15_2
          try clear hcz15_3
          try clear hcz15_4
          try clear hcz16_0
          try clear hcz16_1
          try clear hcz16_2
          try clear hcz16_3
          try clear hcz16_4
          try clear hcz18_0
          try clear hcz18_1
          try clear hcz18_2
          try clear hcz18_3
          try clear hcz18_4
          try clear hcz19_0
          try clear hcz19_1
          try clear hcz19_2
          try clear hcz19_3
          try clear hcz19_4
          try clear hcz21_0
          try clear hcz21_1
          try clear hcz21_2
          try clear hcz21_3
          try clear hcz21_4
          try clear hcz22_0
          try clear hcz22_1
          try clear hcz22_2
          try clear hcz22_3
          try clear hcz22_4
          try clear hcz24_0
          try clear hcz24_1
          try clear hcz24_2
          try clear hcz24_3
          try clear hcz24_4
          try clear hcz25_0
          try clear hcz25_1
          try clear hcz25_2
          try clear hcz25_3
          try clear hcz25_4
          try clear hcz27_0
          try clear hcz27_1
          try clear hcz27_2
          try clear hcz27_3
          try clear hcz27_4
          try clear hcz28_0
          try clear hcz28_1
          try clear hcz28_2
          try clear hcz28_3
          try clear hcz28_4
          try clear hcz8_0
          try clear hcz8_1
          try clear hcz8_2
          try clear hcz8_3
          try clear hcz8_4
          try clear hcz9_0
          try clear hcz9_1
          try clear hcz9_2
          try clear hcz9_3
          try clear hcz9_4
          try clear hfz15_0
          try clear hfz15_1
          try clear hfz15_2
          try clear hfz15_3
          try clear hfz15_4
          try clear hfz16_0
          try clear hfz16_1
          try clear hfz16_2
          try clear hfz16_3
          try clear hfz16_4
          try clear hfz18_0
          try clear hfz18_1
          try clear hfz18_2
          try clear hfz18_3
          try clear hfz18_4
          try clear hfz19_0
          try clear hfz19_1
          try clear hfz19_2
          try clear hfz19_3
          try clear hfz19_4
          try clear hfz21_0
          try clear hfz21_1
          try clear hfz21_2
          try clear hfz21_3
          try clear hfz21_4
          try clear hfz22_0
          try clear hfz22_1
          try clear hfz22_2
          try clear hfz22_3
          try clear hfz22_4
          try clear hfz24_0
          try clear hfz24_1
          try clear hfz24_2
          try clear hfz24_3
          try clear hfz24_4
          try clear hfz25_0
          try clear hfz25_1
          try clear hfz25_2
          try clear hfz25_3
          try clear hfz25_4
          try clear hfz27_0
          try clear hfz27_1
          try clear hfz27_2
          try clear hfz27_3
          try clear hfz27_4
          try clear hfz28_0
          try clear hfz28_1
          try clear hfz28_2
          try clear hfz28_3
          try clear hfz28_4
          try clear hfz8_0
          try clear hfz8_1
          try clear hfz8_2
          try clear hfz8_3
          try clear hfz8_4
          try clear hfz9_0
          try clear hfz9_1
          try clear hfz9_2
          try clear hfz9_3
          try clear hfz9_4
          try clear p2
          obtain ⟨x6_2, rfl, HA, HK2, BK233, BK234, HB⟩ := hrel
          cases gk with
          | zero => exact absurd HA.out (by simp [tipstaffref09_Same.l0])
          | succ k2 =>
            have H := HA.out
            clear HA
            simp only [tipstaffref09_Same.l0] at H
            by_cases c30 : x6_2 < (l0_3.length : Int)
            · rw [if_pos c30] at H
              have c30b0 : decide (x6_2 < (l0_3.length : Int)) = true := decide_eq_true c30
              clear c30
              by_cases c31 : 0 ≤ x6_2
              · rw [if_pos c31] at H
                have c31b0 : decide (0 ≤ x6_2) = true := decide_eq_true c31
                clear c31
                by_cases c32 : x6_2 < (l1_3.length : Int)
                · rw [if_pos c32] at H
                  have c32b0 : decide (x6_2 < (l1_3.length : Int)) = true := decide_eq_true c32
                  clear c32
                  by_cases c33 : (!((((rd_T66 l0_3 x6_2).f0).toList) == (((rd_T66 l1_3 x6_2).f0).toList)) || (!((((rd_T66 l0_3 x6_2).f1).toList) == (((rd_T66 l1_3 x6_2).f1).toList)))) = true
                  · rw [if_pos c33] at H
                    have c33b0 : (!((((rd_T66 l0_3 x6_2).f0).toList) == (((rd_T66 l1_3 x6_2).f0).toList)) || (!((((rd_T66 l0_3 x6_2).f1).toList) == (((rd_T66 l1_3 x6_2).f1).toList)))) = true := c33
                    clear c33
                    obtain rfl := Option.some.inj H
                    have hnb34 := NB233_234.out
                    have hnc34 := NB234_233.out
                    have hcz35_0 : wr.cell? ⟨gb233, 0, none⟩ = some (.int .u8 a0_0) := (blk_cell BK233.out 0).trans rfl
                    have hcz35_1 : wr.cell? ⟨gb233, 1, none⟩ = some (.string a0_1) := (blk_cell BK233.out 1).trans rfl
                    have hcz35_2 : wr.cell? ⟨gb233, 2, none⟩ = some (.slice A0_2 l0_2.length c0_2) := (blk_cell BK233.out 2).trans rfl
                    have hcz35_3 : wr.cell? ⟨gb233, 3, none⟩ = some (.slice A0_3 l0_3.length c0_3) := (blk_cell BK233.out 3).trans rfl
                    have hcz35_4 : wr.cell? ⟨gb233, 4, none⟩ = some (.slice A0_4 l0_4.length c0_4) := (blk_cell BK233.out 4).trans rfl
                    have hfz35_0 := blk_frozen BK233.out 0
                    have hfz35_1 := blk_frozen BK233.out 1
                    have hfz35_2 := blk_frozen BK233.out 2
                    have hfz35_3 := blk_frozen BK233.out 3
                    have hfz35_4 := blk_frozen BK233.out 4
                    have p236 : 0 ≤ (x6_2 : Int) := of_decide_eq_true (by first | (with_reducible assumption) | assumption)
                    have q236 : x6_2 < (l0_3.length : Int) := of_decide_eq_true (by first | (with_reducible assumption) | assumption)
                    obtain ⟨ad236, e236, hx236_0, hx236_1⟩ := at_T66 HR0_3.out x6_2 p236 q236
                    cases e236
                    replace hx236_0 := (HB.out.cell (World.block_lt_of_cell? w _ hx236_0)).trans hx236_0
                    replace hx236_1 := (HB.out.cell (World.block_lt_of_cell? w _ hx236_1)).trans hx236_1
                    replace p236 := eq_true p236
                    replace q236 := eq_true q236
                    have hcz36_0 : wr.cell? ⟨gb234, 0, none⟩ = some (.int .u8 a1_0) := (blk_cell BK234.out 0).trans rfl
                    have hcz36_1 : wr.cell? ⟨gb234, 1, none⟩ = some (.string a1_1) := (blk_cell BK234.out 1).trans rfl
                    have hcz36_2 : wr.cell? ⟨gb234, 2, none⟩ = some (.slice A1_2 l1_2.length c1_2) := (blk_cell BK234.out 2).trans rfl
                    have hcz36_3 : wr.cell? ⟨gb234, 3, none⟩ = some (.slice A1_3 l1_3.length c1_3) := (blk_cell BK234.out 3).trans rfl
                    have hcz36_4 : wr.cell? ⟨gb234, 4, none⟩ = some (.slice A1_4 l1_4.length c1_4) := (blk_cell BK234.out 4).trans rfl
                    have hfz36_0 := blk_frozen BK234.out 0
                    have hfz36_1 := blk_frozen BK234.out 1
                    have hfz36_2 := blk_frozen BK234.out 2
                    have hfz36_3 := blk_frozen BK234.out 3
                    have hfz36_4 := blk_frozen BK234.out 4
                    have p237 : 0 ≤ (x6_2 : Int) := of_decide_eq_true (by first | (with_reducible assumption) | assumption)
                    have q237 : x6_2 < (l1_3.length : Int) := of_decide_eq_true (by first | (with_reducible assumption) | assumption)
                    obtain ⟨ad237, e237, hx237_0, hx237_1⟩ := at_T66 HR1_3.out x6_2 p237 q237
                    cases e237
                    replace hx237_0 := (HB.out.cell (World.block_lt_of_cell? w _ hx237_0)).trans hx237_0
                    replace hx237_1 := (HB.out.cell (World.block_lt_of_cell? w _ hx237_1)).trans hx237_1
                    replace p237 := eq_true p237
                    replace q237 := eq_true q237
                    go_wp2
                    repeat (go_quiet (fail); try go_wp2)
                    all_goals go_ret
                    all_goals exact ⟨by first | rfl | (simp [errW_none, errW_some] <;> rfl) | (simp [*, errW_none, errW_some] <;> rfl), by repeat (first | (with_reducible first | exact HB.out | apply below_alloc | apply pw_below_drewN | apply below_drew1 | refine below_set ?_ GE233.out | refine below_set ?_ GE234.out) | exact HB.out)⟩
                  · rw [if_neg c33] at H
                    have c33b0 : (!((((rd_T66 l0_3 x6_2).f0).toList) == (((rd_T66 l1_3 x6_2).f0).toList)) || (!((((rd_T66 l0_3 x6_2).f1).toList) == (((rd_T66 l1_3 x6_2).f1).toList)))) = false := by (first | exact c33 | (simp; done) | (have h_ := c33; simp at h_; done) | (have h_ := c33; simp at h_ ⊢; first | done | exact h_))
                    clear c33
                    have H' := Aside0.mk H
                    clear H
                    have hnb37 := NB233_234.out
                    have hnc37 := NB234_233.out
                    have hcz38_0 : wr.cell? ⟨gb233, 0, none⟩ = some (.int .u8 a0_0) := (blk_cell BK233.out 0).trans rfl
                    have hcz38_1 : wr.cell? ⟨gb233, 1, none⟩ = some (.string a0_1) := (blk_cell BK233.out 1).trans rfl
                    have hcz38_2 : wr.cell? ⟨gb233, 2, none⟩ = some (.slice A0_2 l0_2.length c0_2) := (blk_cell BK233.out 2).trans rfl
                    have hcz38_3 : wr.cell? ⟨gb233, 3, none⟩ = some (.slice A0_3 l0_3.length c0_3) := (blk_cell BK233.out 3).trans rfl
                    have hcz38_4 : wr.cell? ⟨gb233, 4, none⟩ = some (.slice A0_4 l0_4.length c0_4) := (blk_cell BK233.out 4).trans rfl
                    have hfz38_0 := blk_frozen BK233.out 0
                    have hfz38_1 := blk_frozen BK233.out 1
                    have hfz38_2 := blk_frozen BK233.out 2
                    have hfz38_3 := blk_frozen BK233.out 3
                    have hfz38_4 := blk_frozen BK233.out 4
                    have p236 : 0 ≤ (x6_2 : Int) := of_decide_eq_true (by first | (with_reducible assumption) | assumption)
                    have q236 : x6_2 < (l0_3.length : Int) := of_decide_eq_true (by first | (with_reducible assumption) | assumption)
                    obtain ⟨ad236, e236, hx236_0, hx236_1⟩ := at_T66 HR0_3.out x6_2 p236 q236
                    cases e236
                    replace hx236_0 := (HB.out.cell (World.block_lt_of_cell? w _ hx236_0)).trans hx236_0
                    replace hx236_1 := (HB.out.cell (World.block_lt_of_cell? w _ hx236_1)).trans hx236_1
                    replace p236 := eq_true p236
                    replace q236 := eq_true q236
                    have hcz39_0 : wr.cell? ⟨gb234, 0, none⟩ = some (.int .u8 a1_0) := (blk_cell BK234.out 0).trans rfl
                    have hcz39_1 : wr.cell? ⟨gb234, 1, none⟩ = some (.string a1_1) := (blk_cell BK234.out 1).trans rfl
                    have hcz39_2 : wr.cell? ⟨gb234, 2, none⟩ = some (.slice A1_2 l1_2.length c1_2) := (blk_cell BK234.out 2).trans rfl
                    have hcz39_3 : wr.cell? ⟨gb234, 3, none⟩ = some (.slice A1_3 l1_3.length c1_3) := (blk_cell BK234.out 3).trans rfl
                    have hcz39_4 : wr.cell? ⟨gb234, 4, none⟩ = some (.slice A1_4 l1_4.length c1_4) := (blk_cell BK234.out 4).trans rfl
                    have hfz39_0 := blk_frozen BK234.out 0
                    have hfz39_1 := blk_frozen BK234.out 1
                    have hfz39_2 := blk_frozen BK234.out 2
                    have hfz39_3 := blk_frozen BK234.out 3
                    have hfz39_4 := blk_frozen BK234.out 4
                    have p237 : 0 ≤ (x6_2 : Int) := of_decide_eq_true (by first | (with_reducible assumption) | assumption)
                    have q237 : x6_2 < (l1_3.length : Int) := of_decide_eq_true (by first | (with_reducible assumption) | assumption)
                    obtain ⟨ad237, e237, hx237_0, hx237_1⟩ := at_T66 HR1_3.out x6_2 p237 q237
                    cases e237
                    replace hx237_0 := (HB.out.cell (World.block_lt_of_cell? w _ hx237_0)).trans hx237_0
                    replace hx237_1 := (HB.out.cell (World.block_lt_of_cell? w _ hx237_1)).trans hx237_1
                    replace p237 := eq_true p237
                    replace q237 := eq_true q237
                    go_wp2
                    repeat (go_quiet (fail); try go_wp2)
                    go_roundg k2
                    case measure => have := HJ3.out; have := HK2.out; omega
                    case rel => exact ⟨(wrap64 (x6_2 + 1)), (by first | rfl | (simp; done) | (simp [*]; done)), H', ⟨by have := HJ3.out; have := HK2.out; omega⟩, ⟨by (with_reducible repeat (first | refine blk_drewN ?_ _ | refine blk_drew ?_ | refine blk_alloc ?_ _)); exact BK233.out⟩, ⟨by (with_reducible repeat (first | refine blk_drewN ?_ _ | refine blk_drew ?_ | refine blk_alloc ?_ _)); exact BK234.out⟩, ⟨by repeat (first | (with_reducible first | exact HB.out | apply below_alloc | apply pw_below_drewN | apply below_drew1 | refine below_set ?_ GE233.out | refine below_set ?_ GE234.out) | exact HB.out)⟩⟩
                · rw [if_neg c32] at H
                  exact absurd H (by simp)
              · rw [if_neg c31] at H
                exact absurd H (by simp)
            · rw [if_neg c30] at H
              have c30b0 : decide (x6_2 < (l0_3.length : Int)) = false := decide_eq_false c30
              clear c30
              have H' := Aside0.mk H
              clear H
              have hnb40 := NB233_234.out
              have hnc40 := NB234_233.out
              have hcz41_0 : wr.cell? ⟨gb233, 0, none⟩ = some (.int .u8 a0_0) := (blk_cell BK233.out 0).trans rfl
              have hcz41_1 : wr.cell? ⟨gb233, 1, none⟩ = some (.string a0_1) := (blk_cell BK233.out 1).trans rfl
              have hcz41_2 : wr.cell? ⟨gb233, 2, none⟩ = some (.slice A0_2 l0_2.length c0_2) := (blk_cell BK233.out 2).trans rfl
              have hcz41_3 : wr.cell? ⟨gb233, 3, none⟩ = some (.slice A0_3 l0_3.length c0_3) := (blk_cell BK233.out 3).trans rfl
              have hcz41_4 : wr.cell? ⟨gb233, 4, none⟩ = some (.slice A0_4 l0_4.length c0_4) := (blk_cell BK233.out 4).trans rfl
              have hfz41_0 := blk_frozen BK233.out 0
              have hfz41_1 := blk_frozen BK233.out 1
              have hfz41_2 := blk_frozen BK233.out 2
              have hfz41_3 := blk_frozen BK233.out 3
              have hfz41_4 := blk_frozen BK233.out 4
              go_wp2
              repeat (go_quiet (fail); try go_wp2)
              go_loopg [7] k2 (fun kq v7 w' => ∃ (x7_3 : Int), v7 = .int .i64 x7_3 ∧ Aside0 (tipstaffref09_Same.l1 kq x7_3 a0_0 a0_1 l0_2 l0_3 l0_4 a1_0 a1_1 l1_2 l1_3 l1_4 = some r) ∧ Aside0 (kq ≤ k2) ∧ Aside0 (w'.heap[gb233]? = some (.cells #[.int .u8 a0_0, .string a0_1, (.slice A0_2 l0_2.length c0_2), (.slice A0_3 l0_3.length c0_3), (.slice A0_4 l0_4.length c0_4)] 26 (0, 0))) ∧ Aside0 (w'.heap[gb234]? = some (.cells #[.int .u8 a1_0, .string a1_1, (.slice A1_2 l1_2.length c1_2), (.slice A1_3 l1_3.length c1_3), (.slice A1_4 l1_4.length c1_4)] 26 (0, 0))) ∧ Aside0 (Below w.heap.size w w'))
              case atStart => exact ⟨(0), (by first | rfl | (simp; done) | (simp [*]; done)), H', ⟨Nat.le_refl _⟩, ⟨by (with_reducible repeat (first | refine blk_drewN ?_ _ | refine blk_drew ?_ | refine blk_alloc ?_ _)); exact BK233.out⟩, ⟨by (with_reducible repeat (first | refine blk_drewN ?_ _ | refine blk_drew ?_ | refine blk_alloc ?_ _)); exact BK234.out⟩, ⟨by repeat (first | (with_reducible first | exact HB.out | apply below_alloc | apply pw_below_drewN | apply below_drew1 | refine below_set ?_ GE233.out | refine below_set ?_ GE234.out) | exact HB.out)⟩⟩
              case round =>
                clear H'
                try clear c1
                try clear c2
                try clear p2
                try clear q2
                try clear hx2
                try clear c3
                try clear c4
                try clear p6
                try clear c7
                try clear c10
                try clear c10b0
                try clear c10b1
                try clear c11
                try clear c11b0
                try clear c11b1
                try clear c12
                try clear c13
                try clear c13b0
                try clear c13b1
                try clear c13b2
                try clear c14
                try clear c17
                try clear c20
                try clear c23
                try clear p23
                try clear q23
                try clear hx23
                try clear c24
                try clear c26
                try clear c29
                try clear c30
                try clear c30b0
                try clear c31
                try clear c31b0
                try clear c32
                try clear c32b0
                try clear c33
                try clear c33b0
                try clear c34
                try clear c37
                try clear c40
                try clear hcz15_0
                try clear hcz15_1
                try clear hcz15_2
                try clear hcz15_3
                try clear hcz15_4
                try clear hcz16_0
                try clear hcz16_1
                try clear hcz16_2
                try clear hcz16_3
                try clear hcz16_4
                try clear hcz18_0
                try clear hcz18_1
                try clear hcz18_2
                try clear hcz18_3
                try clear hcz18_4
                try clear hcz19_0
                try clear hcz19_1
                try clear hcz19_2
                try clear hcz19_3
                try clear hcz19_4
                try clear hcz21_0
                try clear hcz21_1
                try clear hcz21_2
                try clear hcz21_3
                try clear hcz21_4
                try clear hcz22_0
                try clear hcz22_1
                try clear hcz22_2
                try clear hcz22_3
                try clear hcz22_4
                try clear hcz24_0
                try clear hcz24_1
                try clear hcz24_2
                try clear hcz24_3
                try clear hcz24_4
                try clear hcz25_0
                try clear hcz25_1
                try clear hcz25_2
                try clear hcz25_3
                try clear hcz25_4
                try clear hcz27_0
                try clear hcz27_1
                try clear hcz27_2
                try clear hcz27_3
                try clear hcz27_4
                try clear hcz28_0
                try clear hcz28_1
                try clear hcz28_2
                try clear hcz28_3
                try clear hcz28_4
                try clear hcz35_0
                try clear hcz35_1
                try clear hcz35_2
                try clear hcz35_3
                try clear hcz35_4
                try clear hcz36_0
                try clear hcz36_1
                try clear hcz36_2
                try clear hcz36_3
                try clear hcz36_4
                try clear hcz38_0
                try clear hcz38_1
                try clear hcz38_2
                try clear hcz38_3
                try clear hcz38_4
                try clear hcz39_0
                try clear hcz39_1
                try clear hcz39_2
                try clear hcz39_3
                try clear hcz39_4
                try clear hcz41_0
                try clear hcz41_1
                try clear hcz41_2
                try clear hcz41_3
                try clear hcz41_4
                try clear hcz8_0
                try clear hcz8_1
                try clear hcz8_2
                try clear hcz8_3
                try clear hcz8_4
                try clear hcz9_0
                try clear hcz9_1
                try clear hcz9_2
                try clear hcz9_3
                try clear hcz9_4
                try clear hfz15_0
                try clear hfz15_1
                try clear hfz15_2
                try clear hfz15_3
                try clear hfz15_4
                try clear hfz16_0
                try clear hfz16_1
                try clear hfz16_2
                try clear hfz16_3
                try clear hfz16_4
                try clear hfz18_0
                try clear hfz18_1
                try clear hfz18_2
                try clear hfz18_3
                try clear hfz18_4
                try clear hfz19_0
                try clear hfz19_1
                try clear hfz19_2
                try clear hfz19_3
                try clear hfz19_4
                try clear hfz21_0
                try clear hfz21_1
                try clear hfz21_2
                try clear hfz21_3
                try clear hfz21_4
                try clear hfz22_0
                try clear hfz22_1
                try clear hfz22_2
                try clear hfz22_3
                try clear hfz22_4
                try clear hfz24_0
                try clear hfz24_1
                try clear hfz24_2
                try clear hfz24_3
                try clear hfz24_4
                try clear hfz25_0
                try clear hfz25_1
                try clear hfz25_2
                try clear hfz25_3
                try clear hfz25_4
                try clear hfz27_0
                try clear hfz27_1
                try clear hfz27_2
                try clear hfz27_3
                try clear hfz27_4
                try clear hfz28_0
                try clear hfz28_1
                try clear hfz28_2
                try clear hfz28_3
                try clear hfz28_4
                try clear hfz35_0
                try clear hfz35_1
                try clear hfz35_2
                try clear hfz35_3
                try clear hfz35_4
                try clear hfz36_0
                try clear hfz36_1
                try clear hfz36_2
                try clear hfz36_3
                try clear hfz36_4
                try clear hfz38_0
                try clear hfz38_1
                try clear hfz38_2
                try clear hfz38_3
                try clear hfz38_4
                try clear hfz39_0
                try clear hfz39_1
                try clear hfz39_2
                try clear hfz39_3
                try clear hfz39_4
                try clear hfz41_0
                try clear hfz41_1
                try clear hfz41_2
                try clear hfz41_3
                try clear hfz41_4
                try clear hfz8_0
                try clear hfz8_1
                try clear hfz8_2
                try clear hfz8_3
                try clear hfz8_4
                try clear hfz9_0
                try clear hfz9_1
                try clear hfz9_2
                try clear hfz9_3
                try clear hfz9_4
                try clear hx236_0
                try clear hx236_1
                try clear hx237_0
                try clear hx237_1
                try clear p2
                try clear p236
                try clear p237
                try clear q236
                try clear q237
                obtain ⟨x7_3, rfl, HA, HK3, BK233, BK234, HB⟩ := hrel
                cases gk with
                | zero => exact absurd HA.out (by simp [tipstaffref09_Same.l1])
                | succ k3 =>
                  have H := HA.out
                  clear HA
                  simp only [tipstaffref09_Same.l1] at H
                  by_cases c42 : x7_3 < (l0_4.length : Int)
                  · rw [if_pos c42] at H
                    have c42b0 : decide (x7_3 < (l0_4.length : Int)) = true := decide_eq_true c42
                    clear c42
                    by_cases c43 : 0 ≤ x7_3
                    · rw [if_pos c43] at H
                      have c43b0 : decide (0 ≤ x7_3) = true := decide_eq_true c43
                      clear c43
                      by_cases c44 : x7_3 < (l1_4.length : Int)
                      · rw [if_pos c44] at H
                        have c44b0 : decide (x7_3 < (l1_4.length : Int)) = true := decide_eq_true c44
                        clear c44
                        by_cases c45 : (!((((rd_T69 l0_4 x7_3).f0).toList) == (((rd_T69 l1_4 x7_3).f0).toList)) || (!(((rd_T69 l0_4 x7_3).f1) == ((rd_T69 l1_4 x7_3).f1)))) = true
                        · rw [if_pos c45] at H
                          have c45b0 : (!((((rd_T69 l0_4 x7_3).f0).toList) == (((rd_T69 l1_4 x7_3).f0).toList)) || (!(((rd_T69 l0_4 x7_3).f1) == ((rd_T69 l1_4 x7_3).f1)))) = true := c45
                          clear c45
                          obtain rfl := Option.some.inj H
                          have hnb46 := NB233_234.out
                          have hnc46 := NB234_233.out
                          have hcz47_0 : wr.cell? ⟨gb233, 0, none⟩ = some (.int .u8 a0_0) := (blk_cell BK233.out 0).trans rfl
                          have hcz47_1 : wr.cell? ⟨gb233, 1, none⟩ = some (.string a0_1) := (blk_cell BK233.out 1).trans rfl
                          have hcz47_2 : wr.cell? ⟨gb233, 2, none⟩ = some (.slice A0_2 l0_2.length c0_2) := (blk_cell BK233.out 2).trans rfl
                          have hcz47_3 : wr.cell? ⟨gb233, 3, none⟩ = some (.slice A0_3 l0_3.length c0_3) := (blk_cell BK233.out 3).trans rfl
                          have hcz47_4 : wr.cell? ⟨gb233, 4, none⟩ = some (.slice A0_4 l0_4.length c0_4) := (blk_cell BK233.out 4).trans rfl
                          have hfz47_0 := blk_frozen BK233.out 0
                          have hfz47_1 := blk_frozen BK233.out 1
                          have hfz47_2 := blk_frozen BK233.out 2
                          have hfz47_3 := blk_frozen BK233.out 3
                          have hfz47_4 := blk_frozen BK233.out 4
                          have p238 : 0 ≤ (x7_3 : Int) := of_decide_eq_true (by first | (with_reducible assumption) | assumption)
                          have q238 : x7_3 < (l0_4.length : Int) := of_decide_eq_true (by first | (with_reducible assumption) | assumption)
                          obtain ⟨ad238, e238, hx238_0, hx238_1⟩ := at_T69 HR0_4.out x7_3 p238 q238
                          cases e238
                          replace hx238_0 := (HB.out.cell (World.block_lt_of_cell? w _ hx238_0)).trans hx238_0
                          replace hx238_1 := (HB.out.cell (World.block_lt_of_cell? w _ hx238_1)).trans hx238_1
                          replace p238 := eq_true p238
                          replace q238 := eq_true q238
                          have hcz48_0 : wr.cell? ⟨gb234, 0, none⟩ = some (.int .u8 a1_0) := (blk_cell BK234.out 0).trans rfl
                          have hcz48_1 : wr.cell? ⟨gb234, 1, none⟩ = some (.string a1_1) := (blk_cell BK234.out 1).trans rfl
                          have hcz48_2 : wr.cell? ⟨gb234, 2, none⟩ = some (.slice A1_2 l1_2.length c1_2) := (blk_cell BK234.out 2).trans rfl
                          have hcz48_3 : wr.cell? ⟨gb234, 3, none⟩ = some (.slice A1_3 l1_3.length c1_3) := (blk_cell BK234.out 3).trans rfl
                          have hcz48_4 : wr.cell? ⟨gb234, 4, none⟩ = some (.slice A1_4 l1_4.length c1_4) := (blk_cell BK234.out 4).trans rfl
                          have hfz48_0 := blk_frozen BK234.out 0
                          have hfz48_1 := blk_frozen BK234.out 1
                          have hfz48_2 := blk_frozen BK234.out 2
                          have hfz48_3 := blk_frozen BK234.out 3
                          have hfz48_4 := blk_frozen BK234.out 4
                          have p239 : 0 ≤ (x7_3 : Int) := of_decide_eq_true (by first | (with_reducible assumption) | assumption)
                          have q239 : x7_3 < (l1_4.length : Int) := of_decide_eq_true (by first | (with_reducible assumption) | assumption)
                          obtain ⟨ad239, e239, hx239_0, hx239_1⟩ := at_T69 HR1_4.out x7_3 p239 q239
                          cases e239
                          replace hx239_0 := (HB.out.cell (World.block_lt_of_cell? w _ hx239_0)).trans hx239_0
                          replace hx239_1 := (HB.out.cell (World.block_lt_of_cell? w _ hx239_1)).trans hx239_1
                          replace p239 := eq_true p239
                          replace q239 := eq_true q239
                          go_wp2
                          repeat (go_quiet (fail); try go_wp2)
                          all_goals go_ret
                          all_goals exact ⟨by first | rfl | (simp [errW_none, errW_some] <;> rfl) | (simp [*, errW_none, errW_some] <;> rfl), by repeat (first | (with_reducible first | exact HB.out | apply below_alloc | apply pw_below_drewN | apply below_drew1 | refine below_set ?_ GE233.out | refine below_set ?_ GE234.out) | exact HB.out)⟩
                        · rw [if_neg c45] at H
                          have c45b0 : (!((((rd_T69 l0_4 x7_3).f0).toList) == (((rd_T69 l1_4 x7_3).f0).toList)) || (!(((rd_T69 l0_4 x7_3).f1) == ((rd_T69 l1_4 x7_3).f1)))) = false := by (first | exact c45 | (simp; done) | (have h_ := c45; simp at h_; done) | (have h_ := c45; simp at h_ ⊢; first | done | exact h_))
                          clear c45
                          have H' := Aside0.mk H
                          clear H
                          have hnb49 := NB233_234.out
                          have hnc49 := NB234_233.out
                          have hcz50_0 : wr.cell? ⟨gb233, 0, none⟩ = some (.int .u8 a0_0) := (blk_cell BK233.out 0).trans rfl
                          have hcz50_1 : wr.cell? ⟨gb233, 1, none⟩ = some (.string a0_1) := (blk_cell BK233.out 1).trans rfl
                          have hcz50_2 : wr.cell? ⟨gb233, 2, none⟩ = some (.slice A0_2 l0_2.length c0_2) := (blk_cell BK233.out 2).trans rfl
                          have hcz50_3 : wr.cell? ⟨gb233, 3, none⟩ = some (.slice A0_3 l0_3.length c0_3) := (blk_cell BK233.out 3).trans rfl
                          have hcz50_4 : wr.cell? ⟨gb233, 4, none⟩ = some (.slice A0_4 l0_4.length c0_4) := (blk_cell BK233.out 4).trans rfl
                          have hfz50_0 := blk_frozen BK233.out 0
                          have hfz50_1 := blk_frozen BK233.out 1
                          have hfz50_2 := blk_frozen BK233.out 2
                          have hfz50_3 := blk_frozen BK233.out 3
                          have hfz50_4 := blk_frozen BK233.out 4
                          have p238 : 0 ≤ (x7_3 : Int) := of_decide_eq_true (by first | (with_reducible assumption) | assumption)
                          have q238 : x7_3 < (l0_4.length : Int) := of_decide_eq_true (by first | (with_reducible assumption) | assumption)
                          obtain ⟨ad238, e238, hx238_0, hx238_1⟩ := at_T69 HR0_4.out x7_3 p238 q238
                          cases e238
                          replace hx238_0 := (HB.out.cell (World.block_lt_of_cell? w _ hx238_0)).trans hx238_0
                          replace hx238_1 := (HB.out.cell (World.block_lt_of_cell? w _ hx238_1)).trans hx238_1
                          replace p238 := eq_true p238
                          replace q238 := eq_true q238
                          have hcz51_0 : wr.cell? ⟨gb234, 0, none⟩ = some (.int .u8 a1_0) := (blk_cell BK234.out 0).trans rfl
                          have hcz51_1 : wr.cell? ⟨gb234, 1, none⟩ = some (.string a1_1) := (blk_cell BK234.out 1).trans rfl
                          have hcz51_2 : wr.cell? ⟨gb234, 2, none⟩ = some (.slice A1_2 l1_2.length c1_2) := (blk_cell BK234.out 2).trans rfl
                          have hcz51_3 : wr.cell? ⟨gb234, 3, none⟩ = some (.slice A1_3 l1_3.length c1_3) := (blk_cell BK234.out 3).trans rfl
                          have hcz51_4 : wr.cell? ⟨gb234, 4, none⟩ = some (.slice A1_4 l1_4.length c1_4) := (blk_cell BK234.out 4).trans rfl
                          have hfz51_0 := blk_frozen BK234.out 0
                          have hfz51_1 := blk_frozen BK234.out 1
                          have hfz51_2 := blk_frozen BK234.out 2
                          have hfz51_3 := blk_frozen BK234.out 3
                          have hfz51_4 := blk_frozen BK234.out 4
                          have p239 : 0 ≤ (x7_3 : Int) := of_decide_eq_true (by first | (with_reducible assumption) | assumption)
                          have q239 : x7_3 < (l1_4.length : Int) := of_decide_eq_true (by first | (with_reducible assumption) | assumption)
                          obtain ⟨ad239, e239, hx239_0, hx239_1⟩ := at_T69 HR1_4.out x7_3 p239 q239
                          cases e239
                          replace hx239_0 := (HB.out.cell (World.block_lt_of_cell? w _ hx239_0)).trans hx239_0
                          replace hx239_1 := (HB.out.cell (World.block_lt_of_cell? w _ hx239_1)).trans hx239_1
                          replace p239 := eq_true p239
                          replace q239 := eq_true q239
                          go_wp2
                          repeat (go_quiet (fail); try go_wp2)
                          go_roundg k3
                          case measure => have := HJ3.out; have := HK2.out; have := HK3.out; omega
                          case rel => exact ⟨(wrap64 (x7_3 + 1)), (by first | rfl | (simp; done) | (simp [*]; done)), H', ⟨by have := HJ3.out; have := HK2.out; have := HK3.out; omega⟩, ⟨by (with_reducible repeat (first | refine blk_drewN ?_ _ | refine blk_drew ?_ | refine blk_alloc ?_ _)); exact BK233.out⟩, ⟨by (with_reducible repeat (first | refine blk_drewN ?_ _ | refine blk_drew ?_ | refine blk_alloc ?_ _)); exact BK234.out⟩, ⟨by repeat (first | (with_reducible first | exact HB.out | apply below_alloc | apply pw_below_drewN | apply below_drew1 | refine below_set ?_ GE233.out | refine below_set ?_ GE234.out) | exact HB.out)⟩⟩
                      · rw [if_neg c44] at H
                        exact absurd H (by simp)
                    · rw [if_neg c43] at H
                      exact absurd H (by simp)
                  · rw [if_neg c42] at H
                    have c42b0 : decide (x7_3 < (l0_4.length : Int)) = false := decide_eq_false c42
                    clear c42
                    obtain rfl := Option.some.inj H
                    have hnb52 := NB233_234.out
                    have hnc52 := NB234_233.out
                    have hcz53_0 : wr.cell? ⟨gb233, 0, none⟩ = some (.int .u8 a0_0) := (blk_cell BK233.out 0).trans rfl
                    have hcz53_1 : wr.cell? ⟨gb233, 1, none⟩ = some (.string a0_1) := (blk_cell BK233.out 1).trans rfl
                    have hcz53_2 : wr.cell? ⟨gb233, 2, none⟩ = some (.slice A0_2 l0_2.length c0_2) := (blk_cell BK233.out 2).trans rfl
                    have hcz53_3 : wr.cell? ⟨gb233, 3, none⟩ = some (.slice A0_3 l0_3.length c0_3) := (blk_cell BK233.out 3).trans rfl
                    have hcz53_4 : wr.cell? ⟨gb233, 4, none⟩ = some (.slice A0_4 l0_4.length c0_4) := (blk_cell BK233.out 4).trans rfl
                    have hfz53_0 := blk_frozen BK233.out 0
                    have hfz53_1 := blk_frozen BK233.out 1
                    have hfz53_2 := blk_frozen BK233.out 2
                    have hfz53_3 := blk_frozen BK233.out 3
                    have hfz53_4 := blk_frozen BK233.out 4
                    go_wp2
                    repeat (go_quiet (fail); try go_wp2)
                    all_goals go_ret
                    all_goals exact ⟨by first | rfl | (simp [errW_none, errW_some] <;> rfl) | (simp [*, errW_none, errW_some] <;> rfl), by repeat (first | (with_reducible first | exact HB.out | apply below_alloc | apply pw_below_drewN | apply below_drew1 | refine below_set ?_ GE233.out | refine below_set ?_ GE234.out) | exact HB.out)⟩

end Go.Proofs.Ytmhdkjihhdljlaa.X
