-- Written by a program of the session (wip/xprint.py): the kit's printer, beside contracts of the session's own.
import Derived.Test.YtmhdkjihhdljlaaXx0
import Derived.Test.YtmhdkjihhdljlaaXx8
import Derived.Test.YtmhdkjihhdljlaaStrOrd
namespace Go.Proofs.Ytmhdkjihhdljlaa.X
open Go.RowKit Go.Proofs.YtmhdkjihhdljlaaW.PrintWords Go.Proofs.YtmhdkjihhdljlaaW.PrintLast Go.Proofs.YtmhdkjihhdljlaaW.PrintMore
attribute [local go_sem] binOp_str_gtr binOp_str_leq binOp_str_geq max2_int min2_int max_two min_two max_three min_three max_four min_four   -- for this text's walks alone
set_option linter.unusedVariables false
set_option linter.unusedSimpArgs false

/-! ### tipstaffref09_Fit: function 11 -/
mutual
def tipstaffref09_Fit.l0 : Nat → List ByteArray → Int → Int → ByteArray → List ByteArray → Option (Int × ByteArray × List ByteArray × (List (S66)) × (List (S69)))
  | 0, _, _, _, _, _ => none
  | k + 1, x4, x5, x205000, x205001, x205002 => if x5 < (x4.length : Int) then (if 0 ≤ x5 then ((tipstaffref09_Put.f k x205002 (rdOf ByteArray.empty x4 x5)).bind fun t214 => (tipstaffref09_Fit.l0 k x4 (wrap64 (x5 + 1)) x205000 x205001 t214)) else (none)) else ((tipstaffref09_Size.f k 4 x205001 x205002 ([] : List (S66)) ([] : List (S69))).bind fun t217 => (if t217 = 0 then (some (0, (⟨#[]⟩ : ByteArray), ([] : List ByteArray), ([] : List (S66)), ([] : List (S69)))) else (some (4, x205001, x205002, ([] : List (S66)), ([] : List (S69))))))
def tipstaffref09_Fit.l1 : Nat → Int → Int → ByteArray → List ByteArray → List (S66) → List (S69) → Int → ByteArray → List (S66) → Option (Int × ByteArray × List ByteArray × (List (S66)) × (List (S69)))
  | 0, _, _, _, _, _, _, _, _, _ => none
  | k + 1, x6, x203000, x203001, x203002, x203003, x203004, x205000, x205001, x205003 => if x6 < (x203003.length : Int) then (if x6 < 8 then (if 0 ≤ x6 then ((tipstaffref09_PutPair.f k x205003 ((rd_T66 x203003 x6).f0) ((rd_T66 x203003 x6).f1)).bind fun t219 => (tipstaffref09_Fit.l1 k (wrap64 (x6 + 1)) x203000 x203001 x203002 x203003 x203004 x205000 x205001 t219)) else (none)) else ((tipstaffref09_Size.f k 3 x205001 ([] : List ByteArray) x205003 ([] : List (S69))).bind fun t222 => (if t222 = 0 then (some (0, (⟨#[]⟩ : ByteArray), ([] : List ByteArray), ([] : List (S66)), ([] : List (S69)))) else (some (3, x205001, ([] : List ByteArray), x205003, ([] : List (S69))))))) else ((tipstaffref09_Size.f k 3 x205001 ([] : List ByteArray) x205003 ([] : List (S69))).bind fun t223 => (if t223 = 0 then (some (0, (⟨#[]⟩ : ByteArray), ([] : List ByteArray), ([] : List (S66)), ([] : List (S69)))) else (some (3, x205001, ([] : List ByteArray), x205003, ([] : List (S69))))))
def tipstaffref09_Fit.l2 : Nat → Int → Int → ByteArray → List ByteArray → List (S66) → List (S69) → Int → ByteArray → List (S69) → Option (Int × ByteArray × List ByteArray × (List (S66)) × (List (S69)))
  | 0, _, _, _, _, _, _, _, _, _ => none
  | k + 1, x7, x203000, x203001, x203002, x203003, x203004, x205000, x205001, x205004 => if x7 < (x203004.length : Int) then (if x7 < 8 then (if 0 ≤ x7 then ((tipstaffref09_PutMark.f k x205004 ((rd_T69 x203004 x7).f0) ((rd_T69 x203004 x7).f1)).bind fun t225 => (tipstaffref09_Fit.l2 k (wrap64 (x7 + 1)) x203000 x203001 x203002 x203003 x203004 x205000 x205001 t225)) else (none)) else ((tipstaffref09_Size.f k 5 x205001 ([] : List ByteArray) ([] : List (S66)) x205004).bind fun t228 => (if t228 = 0 then (some (0, (⟨#[]⟩ : ByteArray), ([] : List ByteArray), ([] : List (S66)), ([] : List (S69)))) else (some (5, x205001, ([] : List ByteArray), ([] : List (S66)), x205004))))) else ((tipstaffref09_Size.f k 5 x205001 ([] : List ByteArray) ([] : List (S66)) x205004).bind fun t229 => (if t229 = 0 then (some (0, (⟨#[]⟩ : ByteArray), ([] : List ByteArray), ([] : List (S66)), ([] : List (S69)))) else (some (5, x205001, ([] : List ByteArray), ([] : List (S66)), x205004))))
end
def tipstaffref09_Fit.f (k : Nat) (a0_0 : Int) (a0_1 : ByteArray) (l0_2 : List ByteArray) (l0_3 : List (S66)) (l0_4 : List (S69)) : Option (Int × ByteArray × List ByteArray × (List (S66)) × (List (S69))) := if 0 ≤ (mn (l0_2.length : Int) 8) then (if (mn (l0_2.length : Int) 8) ≤ (l0_2.length : Int) then (if (Int.tmod a0_0 6) = 1 then (if 0 ≤ (mn (a0_1.size : Int) 40) then (if (mn (a0_1.size : Int) 40) ≤ (a0_1.size : Int) then (some (1, a0_1.extract 0 ((mn (a0_1.size : Int) 40) : Int).toNat, ([] : List ByteArray), ([] : List (S66)), ([] : List (S69)))) else (none)) else (none)) else (if (Int.tmod a0_0 6) = 2 then ((some (([] : List ByteArray) : List ByteArray)).bind fun y206 => (if y206.length + (l0_2.take ((mn (l0_2.length : Int) 8) : Int).toNat).length < 8796093022208 then ((some (y206 ++ (l0_2.take ((mn (l0_2.length : Int) 8) : Int).toNat) : List ByteArray)).bind fun y209 => ((tipstaffref09_Size.f k 2 (⟨#[]⟩ : ByteArray) y209 ([] : List (S66)) ([] : List (S69))).bind fun t212 => (if t212 = 0 then (some (0, (⟨#[]⟩ : ByteArray), ([] : List ByteArray), ([] : List (S66)), ([] : List (S69)))) else (some (2, (⟨#[]⟩ : ByteArray), y209, ([] : List (S66)), ([] : List (S69))))))) else (none))) else (if (Int.tmod a0_0 6) = 4 then (tipstaffref09_Fit.l0 k (l0_2.take ((mn (l0_2.length : Int) 8) : Int).toNat) 0 0 (⟨#[]⟩ : ByteArray) ([] : List ByteArray)) else (if (Int.tmod a0_0 6) = 3 then (tipstaffref09_Fit.l1 k 0 a0_0 a0_1 l0_2 l0_3 l0_4 0 (⟨#[]⟩ : ByteArray) ([] : List (S66))) else (if (Int.tmod a0_0 6) = 5 then (tipstaffref09_Fit.l2 k 0 a0_0 a0_1 l0_2 l0_3 l0_4 0 (⟨#[]⟩ : ByteArray) ([] : List (S69))) else ((tipstaffref09_Size.f k 0 (⟨#[]⟩ : ByteArray) ([] : List ByteArray) ([] : List (S66)) ([] : List (S69))).bind fun t230 => (if t230 = 0 then (some (0, (⟨#[]⟩ : ByteArray), ([] : List ByteArray), ([] : List (S66)), ([] : List (S69)))) else (some (0, (⟨#[]⟩ : ByteArray), ([] : List ByteArray), ([] : List (S66)), ([] : List (S69))))))))))) else (none)) else (none)
theorem tipstaffref09_Fit.mono_l : ∀ k, (∀ y0 y1 y2 y3 y4, LeO (tipstaffref09_Fit.l0 k y0 y1 y2 y3 y4) (tipstaffref09_Fit.l0 (k + 1) y0 y1 y2 y3 y4)) ∧ (∀ y0 y1 y2 y3 y4 y5 y6 y7 y8, LeO (tipstaffref09_Fit.l1 k y0 y1 y2 y3 y4 y5 y6 y7 y8) (tipstaffref09_Fit.l1 (k + 1) y0 y1 y2 y3 y4 y5 y6 y7 y8)) ∧ (∀ y0 y1 y2 y3 y4 y5 y6 y7 y8, LeO (tipstaffref09_Fit.l2 k y0 y1 y2 y3 y4 y5 y6 y7 y8) (tipstaffref09_Fit.l2 (k + 1) y0 y1 y2 y3 y4 y5 y6 y7 y8))
  | 0 => ⟨fun _ _ _ _ _ r h => by simp [tipstaffref09_Fit.l0] at h, fun _ _ _ _ _ _ _ _ _ r h => by simp [tipstaffref09_Fit.l1] at h, fun _ _ _ _ _ _ _ _ _ r h => by simp [tipstaffref09_Fit.l2] at h⟩
  | k + 1 => by
    obtain ⟨ih0, ih1, ih2⟩ := tipstaffref09_Fit.mono_l k
    refine ⟨?_, ?_, ?_⟩
    · intro y0 y1 y2 y3 y4
      unfold tipstaffref09_Fit.l0
      repeat' first
      | (with_reducible exact ih0 _ _ _ _ _)
      | (with_reducible exact ih1 _ _ _ _ _ _ _ _ _)
      | (with_reducible exact ih2 _ _ _ _ _ _ _ _ _)
      | (with_reducible exact tipstaffref09_Put.mono _ _ _)
      | (with_reducible exact tipstaffref09_PutMark.mono _ _ _ _)
      | (with_reducible exact tipstaffref09_PutPair.mono _ _ _ _)
      | (with_reducible exact tipstaffref09_Size.mono _ _ _ _ _ _)
      | (with_reducible exact LeO.refl _)
      | (with_reducible exact LeO.none _)
      | (with_reducible refine LeO.ite ?_ ?_)
      | (with_reducible refine LeO.bind ?_ (fun _ => ?_))
      | exact ih0 _ _ _ _ _
      | exact ih1 _ _ _ _ _ _ _ _ _
      | exact ih2 _ _ _ _ _ _ _ _ _
      | exact tipstaffref09_Put.mono _ _ _
      | exact tipstaffref09_PutMark.mono _ _ _ _
      | exact tipstaffref09_PutPair.mono _ _ _ _
      | exact tipstaffref09_Size.mono _ _ _ _ _ _
      | exact LeO.none _
      | refine LeO.ite ?_ ?_
      | refine LeO.bind ?_ (fun _ => ?_)
    · intro y0 y1 y2 y3 y4 y5 y6 y7 y8
      unfold tipstaffref09_Fit.l1
      repeat' first
      | (with_reducible exact ih0 _ _ _ _ _)
      | (with_reducible exact ih1 _ _ _ _ _ _ _ _ _)
      | (with_reducible exact ih2 _ _ _ _ _ _ _ _ _)
      | (with_reducible exact tipstaffref09_Put.mono _ _ _)
      | (with_reducible exact tipstaffref09_PutMark.mono _ _ _ _)
      | (with_reducible exact tipstaffref09_PutPair.mono _ _ _ _)
      | (with_reducible exact tipstaffref09_Size.mono _ _ _ _ _ _)
      | (with_reducible exact LeO.refl _)
      | (with_reducible exact LeO.none _)
      | (with_reducible refine LeO.ite ?_ ?_)
      | (with_reducible refine LeO.bind ?_ (fun _ => ?_))
      | exact ih0 _ _ _ _ _
      | exact ih1 _ _ _ _ _ _ _ _ _
      | exact ih2 _ _ _ _ _ _ _ _ _
      | exact tipstaffref09_Put.mono _ _ _
      | exact tipstaffref09_PutMark.mono _ _ _ _
      | exact tipstaffref09_PutPair.mono _ _ _ _
      | exact tipstaffref09_Size.mono _ _ _ _ _ _
      | exact LeO.none _
      | refine LeO.ite ?_ ?_
      | refine LeO.bind ?_ (fun _ => ?_)
    · intro y0 y1 y2 y3 y4 y5 y6 y7 y8
      unfold tipstaffref09_Fit.l2
      repeat' first
      | (with_reducible exact ih0 _ _ _ _ _)
      | (with_reducible exact ih1 _ _ _ _ _ _ _ _ _)
      | (with_reducible exact ih2 _ _ _ _ _ _ _ _ _)
      | (with_reducible exact tipstaffref09_Put.mono _ _ _)
      | (with_reducible exact tipstaffref09_PutMark.mono _ _ _ _)
      | (with_reducible exact tipstaffref09_PutPair.mono _ _ _ _)
      | (with_reducible exact tipstaffref09_Size.mono _ _ _ _ _ _)
      | (with_reducible exact LeO.refl _)
      | (with_reducible exact LeO.none _)
      | (with_reducible refine LeO.ite ?_ ?_)
      | (with_reducible refine LeO.bind ?_ (fun _ => ?_))
      | exact ih0 _ _ _ _ _
      | exact ih1 _ _ _ _ _ _ _ _ _
      | exact ih2 _ _ _ _ _ _ _ _ _
      | exact tipstaffref09_Put.mono _ _ _
      | exact tipstaffref09_PutMark.mono _ _ _ _
      | exact tipstaffref09_PutPair.mono _ _ _ _
      | exact tipstaffref09_Size.mono _ _ _ _ _ _
      | exact LeO.none _
      | refine LeO.ite ?_ ?_
      | refine LeO.bind ?_ (fun _ => ?_)
theorem tipstaffref09_Fit.mono : ∀ a0 a1 a2 a3 a4 k, LeO (tipstaffref09_Fit.f k a0 a1 a2 a3 a4) (tipstaffref09_Fit.f (k + 1) a0 a1 a2 a3 a4) := by
  intro a0 a1 a2 a3 a4 k
  obtain ⟨ih0, ih1, ih2⟩ := tipstaffref09_Fit.mono_l k
  unfold tipstaffref09_Fit.f
  repeat' first
      | (with_reducible exact ih0 _ _ _ _ _)
      | (with_reducible exact ih1 _ _ _ _ _ _ _ _ _)
      | (with_reducible exact ih2 _ _ _ _ _ _ _ _ _)
      | (with_reducible exact tipstaffref09_Put.mono _ _ _)
      | (with_reducible exact tipstaffref09_PutMark.mono _ _ _ _)
      | (with_reducible exact tipstaffref09_PutPair.mono _ _ _ _)
      | (with_reducible exact tipstaffref09_Size.mono _ _ _ _ _ _)
      | (with_reducible exact LeO.refl _)
      | (with_reducible exact LeO.none _)
      | (with_reducible refine LeO.ite ?_ ?_)
      | (with_reducible refine LeO.bind ?_ (fun _ => ?_))
      | exact ih0 _ _ _ _ _
      | exact ih1 _ _ _ _ _ _ _ _ _
      | exact ih2 _ _ _ _ _ _ _ _ _
      | exact tipstaffref09_Put.mono _ _ _
      | exact tipstaffref09_PutMark.mono _ _ _ _
      | exact tipstaffref09_PutPair.mono _ _ _ _
      | exact tipstaffref09_Size.mono _ _ _ _ _ _
      | exact LeO.none _
      | refine LeO.ite ?_ ?_
      | refine LeO.bind ?_ (fun _ => ?_)
def tipstaffref09_Fit.T13 : Bool × List (List Nat × List Nat) := (true, [([], []), ([0], [0]), ([], []), ([], []), ([2, 3], [2, 3]), ([4], [4]), ([1, 5], [1, 5]), ([0, 1, 2, 3, 4, 5, 6], []), ([7, 6, 6, 0, 1, 2, 3, 4, 5, 6], [6, 7])])
def tipstaffref09_Fit.B13 : List Nat := [0, 1, 0, 0, 12, 28, 63, 127, 255]
theorem tipstaffref09_Fit.tab13 : rtab .any (opsOf Try.f11 13) = tipstaffref09_Fit.T13 := by kernel_rfl
theorem tipstaffref09_Fit.bits13 : waitsOk tipstaffref09_Fit.T13.2 tipstaffref09_Fit.B13 = true := by kernel_rfl
def tipstaffref09_Fit.T19 : Bool × List (List Nat × List Nat) := (true, [([], []), ([0], [0]), ([], []), ([2], [2]), ([], []), ([3, 4], [3, 4]), ([5], [5]), ([1, 6], [1, 6]), ([0, 1, 2, 3, 4, 5, 6, 7], []), ([8, 7, 7, 0, 1, 2, 3, 4, 5, 6, 7], [7, 8])])
def tipstaffref09_Fit.B19 : List Nat := [0, 1, 0, 4, 0, 28, 60, 127, 255, 511]
theorem tipstaffref09_Fit.tab19 : rtab .any (opsOf Try.f11 19) = tipstaffref09_Fit.T19 := by kernel_rfl
theorem tipstaffref09_Fit.bits19 : waitsOk tipstaffref09_Fit.T19.2 tipstaffref09_Fit.B19 = true := by kernel_rfl
def tipstaffref09_Fit.T25 : Bool × List (List Nat × List Nat) := (true, [([], []), ([0], [0]), ([], []), ([2], [2]), ([], []), ([3, 4], [3, 4]), ([5], [5]), ([1, 6], [1, 6]), ([0, 1, 2, 3, 4, 5, 6, 7], []), ([8, 7, 7, 0, 1, 2, 3, 4, 5, 6, 7], [7, 8])])
def tipstaffref09_Fit.B25 : List Nat := [0, 1, 0, 4, 0, 28, 60, 127, 255, 511]
theorem tipstaffref09_Fit.tab25 : rtab .any (opsOf Try.f11 25) = tipstaffref09_Fit.T25 := by kernel_rfl
theorem tipstaffref09_Fit.bits25 : waitsOk tipstaffref09_Fit.T25.2 tipstaffref09_Fit.B25 = true := by kernel_rfl
end Go.Proofs.Ytmhdkjihhdljlaa.X
