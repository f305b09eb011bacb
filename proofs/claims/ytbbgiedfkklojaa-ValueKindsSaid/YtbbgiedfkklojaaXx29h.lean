-- Written by a program of the session (wip/xprint.py): the kit's printer, beside contracts of the session's own.
import Derived.Test.YtbbgiedfkklojaaXx0
import Derived.Test.YtbbgiedfkklojaaXx16
import Derived.Test.YtbbgiedfkklojaaXx26
import Derived.Test.YtbbgiedfkklojaaStrOrd
namespace Go.Proofs.Ytbbgiedfkklojaa.X
open Go.RowKit Go.Proofs.YtbbgiedfkklojaaW.PrintWords Go.Proofs.YtbbgiedfkklojaaW.PrintLast Go.Proofs.YtbbgiedfkklojaaW.PrintMore
attribute [local go_sem] binOp_str_gtr binOp_str_leq binOp_str_geq max2_int min2_int max_two min_two max_three min_three max_four min_four   -- for this text's walks alone
set_option linter.unusedVariables false
set_option linter.unusedSimpArgs false

/-! ### tipstaffref09_Fit: function 15 -/
mutual
def tipstaffref09_Fit.l0 : Nat → List ByteArray → Int → Int → ByteArray → List ByteArray → Option (Int × ByteArray × List ByteArray × (List (S60)) × (List (S62)))
  | 0, _, _, _, _, _ => none
  | k + 1, x4, x5, x378000, x378001, x378002 => if x5 < (x4.length : Int) then (if 0 ≤ x5 then ((tipstaffref09_Put.f k x378002 (rdOf ByteArray.empty x4 x5)).bind fun t387 => (tipstaffref09_Fit.l0 k x4 (wrap64 (x5 + 1)) x378000 x378001 t387)) else (none)) else ((tipstaffref09_Size.f k 4 x378001 x378002 ([] : List (S60)) ([] : List (S62))).bind fun t390 => (if t390 = 0 then (some (0, (⟨#[]⟩ : ByteArray), ([] : List ByteArray), ([] : List (S60)), ([] : List (S62)))) else (some (4, x378001, x378002, ([] : List (S60)), ([] : List (S62))))))
def tipstaffref09_Fit.l1 : Nat → Int → Int → ByteArray → List ByteArray → List (S60) → List (S62) → Int → ByteArray → List (S60) → Option (Int × ByteArray × List ByteArray × (List (S60)) × (List (S62)))
  | 0, _, _, _, _, _, _, _, _, _ => none
  | k + 1, x6, x376000, x376001, x376002, x376003, x376004, x378000, x378001, x378003 => if x6 < (x376003.length : Int) then (if x6 < 8 then (if 0 ≤ x6 then ((tipstaffref09_PutPair.f k x378003 ((rd_T60 x376003 x6).f0) ((rd_T60 x376003 x6).f1)).bind fun t392 => (tipstaffref09_Fit.l1 k (wrap64 (x6 + 1)) x376000 x376001 x376002 x376003 x376004 x378000 x378001 t392)) else (none)) else ((tipstaffref09_Size.f k 3 x378001 ([] : List ByteArray) x378003 ([] : List (S62))).bind fun t395 => (if t395 = 0 then (some (0, (⟨#[]⟩ : ByteArray), ([] : List ByteArray), ([] : List (S60)), ([] : List (S62)))) else (some (3, x378001, ([] : List ByteArray), x378003, ([] : List (S62))))))) else ((tipstaffref09_Size.f k 3 x378001 ([] : List ByteArray) x378003 ([] : List (S62))).bind fun t396 => (if t396 = 0 then (some (0, (⟨#[]⟩ : ByteArray), ([] : List ByteArray), ([] : List (S60)), ([] : List (S62)))) else (some (3, x378001, ([] : List ByteArray), x378003, ([] : List (S62))))))
def tipstaffref09_Fit.l2 : Nat → Int → Int → ByteArray → List ByteArray → List (S60) → List (S62) → Int → ByteArray → List (S62) → Option (Int × ByteArray × List ByteArray × (List (S60)) × (List (S62)))
  | 0, _, _, _, _, _, _, _, _, _ => none
  | k + 1, x7, x376000, x376001, x376002, x376003, x376004, x378000, x378001, x378004 => if x7 < (x376004.length : Int) then (if x7 < 8 then (if 0 ≤ x7 then ((tipstaffref09_PutMark.f k x378004 ((rd_T62 x376004 x7).f0) ((rd_T62 x376004 x7).f1)).bind fun t398 => (tipstaffref09_Fit.l2 k (wrap64 (x7 + 1)) x376000 x376001 x376002 x376003 x376004 x378000 x378001 t398)) else (none)) else ((tipstaffref09_Size.f k 5 x378001 ([] : List ByteArray) ([] : List (S60)) x378004).bind fun t401 => (if t401 = 0 then (some (0, (⟨#[]⟩ : ByteArray), ([] : List ByteArray), ([] : List (S60)), ([] : List (S62)))) else (some (5, x378001, ([] : List ByteArray), ([] : List (S60)), x378004))))) else ((tipstaffref09_Size.f k 5 x378001 ([] : List ByteArray) ([] : List (S60)) x378004).bind fun t402 => (if t402 = 0 then (some (0, (⟨#[]⟩ : ByteArray), ([] : List ByteArray), ([] : List (S60)), ([] : List (S62)))) else (some (5, x378001, ([] : List ByteArray), ([] : List (S60)), x378004))))
end
def tipstaffref09_Fit.f (k : Nat) (a0_0 : Int) (a0_1 : ByteArray) (l0_2 : List ByteArray) (l0_3 : List (S60)) (l0_4 : List (S62)) : Option (Int × ByteArray × List ByteArray × (List (S60)) × (List (S62))) := if 0 ≤ (mn (l0_2.length : Int) 8) then (if (mn (l0_2.length : Int) 8) ≤ (l0_2.length : Int) then (if (Int.tmod a0_0 6) = 1 then (if 0 ≤ (mn (a0_1.size : Int) 40) then (if (mn (a0_1.size : Int) 40) ≤ (a0_1.size : Int) then (some (1, a0_1.extract 0 ((mn (a0_1.size : Int) 40) : Int).toNat, ([] : List ByteArray), ([] : List (S60)), ([] : List (S62)))) else (none)) else (none)) else (if (Int.tmod a0_0 6) = 2 then ((some (([] : List ByteArray) : List ByteArray)).bind fun y379 => (if y379.length + (l0_2.take ((mn (l0_2.length : Int) 8) : Int).toNat).length < 8796093022208 then ((some (y379 ++ (l0_2.take ((mn (l0_2.length : Int) 8) : Int).toNat) : List ByteArray)).bind fun y382 => ((tipstaffref09_Size.f k 2 (⟨#[]⟩ : ByteArray) y382 ([] : List (S60)) ([] : List (S62))).bind fun t385 => (if t385 = 0 then (some (0, (⟨#[]⟩ : ByteArray), ([] : List ByteArray), ([] : List (S60)), ([] : List (S62)))) else (some (2, (⟨#[]⟩ : ByteArray), y382, ([] : List (S60)), ([] : List (S62))))))) else (none))) else (if (Int.tmod a0_0 6) = 4 then (tipstaffref09_Fit.l0 k (l0_2.take ((mn (l0_2.length : Int) 8) : Int).toNat) 0 0 (⟨#[]⟩ : ByteArray) ([] : List ByteArray)) else (if (Int.tmod a0_0 6) = 3 then (tipstaffref09_Fit.l1 k 0 a0_0 a0_1 l0_2 l0_3 l0_4 0 (⟨#[]⟩ : ByteArray) ([] : List (S60))) else (if (Int.tmod a0_0 6) = 5 then (tipstaffref09_Fit.l2 k 0 a0_0 a0_1 l0_2 l0_3 l0_4 0 (⟨#[]⟩ : ByteArray) ([] : List (S62))) else ((tipstaffref09_Size.f k 0 (⟨#[]⟩ : ByteArray) ([] : List ByteArray) ([] : List (S60)) ([] : List (S62))).bind fun t403 => (if t403 = 0 then (some (0, (⟨#[]⟩ : ByteArray), ([] : List ByteArray), ([] : List (S60)), ([] : List (S62)))) else (some (0, (⟨#[]⟩ : ByteArray), ([] : List ByteArray), ([] : List (S60)), ([] : List (S62))))))))))) else (none)) else (none)
theorem tipstaffref09_Fit.mono_l : ∀ k, (∀ y0 y1 y2 y3 y4, LeO (tipstaffref09_Fit.l0 k y0 y1 y2 y3 y4) (tipstaffref09_Fit.l0 (k + 1) y0 y1 y2 y3 y4)) ∧ (∀ y0 y1 y2 y3 y4 y5 y6 y7 y8, LeO (tipstaffref09_Fit.l1 k y0 y1 y2 y3 y4 y5 y6 y7 y8) (tipstaffref09_Fit.l1 (k + 1) y0 y1 y2 y3 y4 y5 y6 y7 y8)) ∧ (∀ y0 y1 y2 y3 y4 y5 y6 y7 y8, LeO (tipstaffref09_Fit.l2 k y0 y1 y2 y3 y4 y5 y6 y7 y8) (tipstaffref09_Fit.l2 (k + 1) y0 y1 y2 y3 y4 y5 y6 y7 y8))
  | 0 => ⟨fun _ _ _ _ _ r h => by simp [tipstaffref09_Fit.l0] at h, fun _ _ _ _ _ _ _ _ _ r h => by simp [tipstaffref09_Fit.l1] at h, fun _ _ _ _ _ _ _ _ _ r h => by simp [tipstaffref09_Fit.l2] at h⟩
  | k + 1 => by
    obtain ⟨ih0, ih1, ih2⟩ := tipstaffref09_Fit.mono_l k
    refine ⟨?_, ?_, ?_⟩
    · intro y0 y1 y2 y3 y4
      unfold tipstaffref09_Fit.l0
      repeat' first
      | (with_reducible exact ih0 _ _ _ _ _)
      | (with_reducible exact ih1 _ _ _ _ _ _ _ _ _)
      | (with_reducible exact ih2 _ _ _ _ _ _ _ _ _)
      | (with_reducible exact tipstaffref09_Put.mono _ _ _)
      | (with_reducible exact tipstaffref09_PutMark.mono _ _ _ _)
      | (with_reducible exact tipstaffref09_PutPair.mono _ _ _ _)
      | (with_reducible exact tipstaffref09_Size.mono _ _ _ _ _ _)
      | (with_reducible exact LeO.refl _)
      | (with_reducible exact LeO.none _)
      | (with_reducible refine LeO.ite ?_ ?_)
      | (with_reducible refine LeO.bind ?_ (fun _ => ?_))
      | exact ih0 _ _ _ _ _
      | exact ih1 _ _ _ _ _ _ _ _ _
      | exact ih2 _ _ _ _ _ _ _ _ _
      | exact tipstaffref09_Put.mono _ _ _
      | exact tipstaffref09_PutMark.mono _ _ _ _
      | exact tipstaffref09_PutPair.mono _ _ _ _
      | exact tipstaffref09_Size.mono _ _ _ _ _ _
      | exact LeO.none _
      | refine LeO.ite ?_ ?_
      | refine LeO.bind ?_ (fun _ => ?_)
    · intro y0 y1 y2 y3 y4 y5 y6 y7 y8
      unfold tipstaffref09_Fit.l1
      repeat' first
      | (with_reducible exact ih0 _ _ _ _ _)
      | (with_reducible exact ih1 _ _ _ _ _ _ _ _ _)
      | (with_reducible exact ih2 _ _ _ _ _ _ _ _ _)
      | (with_reducible exact tipstaffref09_Put.mono _ _ _)
      | (with_reducible exact tipstaffref09_PutMark.mono _ _ _ _)
      | (with_reducible exact tipstaffref09_PutPair.mono _ _ _ _)
      | (with_reducible exact tipstaffref09_Size.mono _ _ _ _ _ _)
      | (with_reducible exact LeO.refl _)
      | (with_reducible exact LeO.none _)
      | (with_reducible refine LeO.ite ?_ ?_)
      | (with_reducible refine LeO.bind ?_ (fun _ => ?_))
      | exact ih0 _ _ _ _ _
      | exact ih1 _ _ _ _ _ _ _ _ _
      | exact ih2 _ _ _ _ _ _ _ _ _
      | exact tipstaffref09_Put.mono _ _ _
      | exact tipstaffref09_PutMark.mono _ _ _ _
      | exact tipstaffref09_PutPair.mono _ _ _ _
      | exact tipstaffref09_Size.mono _ _ _ _ _ _
      | exact LeO.none _
      | refine LeO.ite ?_ ?_
      | refine LeO.bind ?_ (fun _ => ?_)
    · intro y0 y1 y2 y3 y4 y5 y6 y7 y8
      unfold tipstaffref09_Fit.l2
      repeat' first
      | (with_reducible exact ih0 _ _ _ _ _)
      | (with_reducible exact ih1 _ _ _ _ _ _ _ _ _)
      | (with_reducible exact ih2 _ _ _ _ _ _ _ _ _)
      | (with_reducible exact tipstaffref09_Put.mono _ _ _)
      | (with_reducible exact tipstaffref09_PutMark.mono _ _ _ _)
      | (with_reducible exact tipstaffref09_PutPair.mono _ _ _ _)
      | (with_reducible exact tipstaffref09_Size.mono _ _ _ _ _ _)
      | (with_reducible exact LeO.refl _)
      | (with_reducible exact LeO.none _)
      | (with_reducible refine LeO.ite ?_ ?_)
      | (with_reducible refine LeO.bind ?_ (fun _ => ?_))
      | exact ih0 _ _ _ _ _
      | exact ih1 _ _ _ _ _ _ _ _ _
      | exact ih2 _ _ _ _ _ _ _ _ _
      | exact tipstaffref09_Put.mono _ _ _
      | exact tipstaffref09_PutMark.mono _ _ _ _
      | exact tipstaffref09_PutPair.mono _ _ _ _
      | exact tipstaffref09_Size.mono _ _ _ _ _ _
      | exact LeO.none _
      | refine LeO.ite ?_ ?_
      | refine LeO.bind ?_ (fun _ => ?_)
theorem tipstaffref09_Fit.mono : ∀ a0 a1 a2 a3 a4 k, LeO (tipstaffref09_Fit.f k a0 a1 a2 a3 a4) (tipstaffref09_Fit.f (k + 1) a0 a1 a2 a3 a4) := by
  intro a0 a1 a2 a3 a4 k
  obtain ⟨ih0, ih1, ih2⟩ := tipstaffref09_Fit.mono_l k
  unfold tipstaffref09_Fit.f
  repeat' first
      | (with_reducible exact ih0 _ _ _ _ _)
      | (with_reducible exact ih1 _ _ _ _ _ _ _ _ _)
      | (with_reducible exact ih2 _ _ _ _ _ _ _ _ _)
      | (with_reducible exact tipstaffref09_Put.mono _ _ _)
      | (with_reducible exact tipstaffref09_PutMark.mono _ _ _ _)
      | (with_reducible exact tipstaffref09_PutPair.mono _ _ _ _)
      | (with_reducible exact tipstaffref09_Size.mono _ _ _ _ _ _)
      | (with_reducible exact LeO.refl _)
      | (with_reducible exact LeO.none _)
      | (with_reducible refine LeO.ite ?_ ?_)
      | (with_reducible refine LeO.bind ?_ (fun _ => ?_))
      | exact ih0 _ _ _ _ _
      | exact ih1 _ _ _ _ _ _ _ _ _
      | exact ih2 _ _ _ _ _ _ _ _ _
      | exact tipstaffref09_Put.mono _ _ _
      | exact tipstaffref09_PutMark.mono _ _ _ _
      | exact tipstaffref09_PutPair.mono _ _ _ _
      | exact tipstaffref09_Size.mono _ _ _ _ _ _
      | exact LeO.none _
      | refine LeO.ite ?_ ?_
      | refine LeO.bind ?_ (fun _ => ?_)
def tipstaffref09_Fit.T13 : Bool × List (List Nat × List Nat) := (true, [([], []), ([0], [0]), ([], []), ([], []), ([2, 3], [2, 3]), ([4], [4]), ([1, 5], [1, 5]), ([0, 1, 2, 3, 4, 5, 6], []), ([7, 6, 6, 0, 1, 2, 3, 4, 5, 6], [6, 7])])
def tipstaffref09_Fit.B13 : List Nat := [0, 1, 0, 0, 12, 28, 63, 127, 255]
theorem tipstaffref09_Fit.tab13 : rtab .any (opsOf Try.f15 13) = tipstaffref09_Fit.T13 := by kernel_rfl
theorem tipstaffref09_Fit.bits13 : waitsOk tipstaffref09_Fit.T13.2 tipstaffref09_Fit.B13 = true := by kernel_rfl
def tipstaffref09_Fit.T19 : Bool × List (List Nat × List Nat) := (true, [([], []), ([0], [0]), ([], []), ([2], [2]), ([], []), ([3, 4], [3, 4]), ([5], [5]), ([1, 6], [1, 6]), ([0, 1, 2, 3, 4, 5, 6, 7], []), ([8, 7, 7, 0, 1, 2, 3, 4, 5, 6, 7], [7, 8])])
def tipstaffref09_Fit.B19 : List Nat := [0, 1, 0, 4, 0, 28, 60, 127, 255, 511]
theorem tipstaffref09_Fit.tab19 : rtab .any (opsOf Try.f15 19) = tipstaffref09_Fit.T19 := by kernel_rfl
theorem tipstaffref09_Fit.bits19 : waitsOk tipstaffref09_Fit.T19.2 tipstaffref09_Fit.B19 = true := by kernel_rfl
def tipstaffref09_Fit.T25 : Bool × List (List Nat × List Nat) := (true, [([], []), ([0], [0]), ([], []), ([2], [2]), ([], []), ([3, 4], [3, 4]), ([5], [5]), ([1, 6], [1, 6]), ([0, 1, 2, 3, 4, 5, 6, 7], []), ([8, 7, 7, 0, 1, 2, 3, 4, 5, 6, 7], [7, 8])])
def tipstaffref09_Fit.B25 : List Nat := [0, 1, 0, 4, 0, 28, 60, 127, 255, 511]
theorem tipstaffref09_Fit.tab25 : rtab .any (opsOf Try.f15 25) = tipstaffref09_Fit.T25 := by kernel_rfl
theorem tipstaffref09_Fit.bits25 : waitsOk tipstaffref09_Fit.T25.2 tipstaffref09_Fit.B25 = true := by kernel_rfl
end Go.Proofs.Ytbbgiedfkklojaa.X
