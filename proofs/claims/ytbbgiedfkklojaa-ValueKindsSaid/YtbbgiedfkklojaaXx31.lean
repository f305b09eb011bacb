-- Written by a program of the session (wip/xprint.py): the kit's printer, beside contracts of the session's own.
import Derived.Test.YtbbgiedfkklojaaXx0
import Derived.Test.YtbbgiedfkklojaaXx16
import Derived.Test.YtbbgiedfkklojaaXx29
import Derived.Test.YtbbgiedfkklojaaXx1
import Derived.Test.YtbbgiedfkklojaaEShown
import Derived.Test.YtbbgiedfkklojaaEType
import Derived.Test.YtbbgiedfkklojaaStrOrd
namespace Go.Proofs.Ytbbgiedfkklojaa.X
open Go.RowKit Go.Proofs.YtbbgiedfkklojaaW.PrintWords Go.Proofs.YtbbgiedfkklojaaW.PrintLast Go.Proofs.YtbbgiedfkklojaaW.PrintMore
attribute [local go_sem] binOp_str_gtr binOp_str_leq binOp_str_geq max2_int min2_int max_two min_two max_three min_three max_four min_four   -- for this text's walks alone
set_option linter.unusedVariables false
set_option linter.unusedSimpArgs false

/-! ### tipstafflaw09_ValueKinds: function 12 -/
def tipstafflaw09_ValueKinds.f (k : Nat) (a0_0 : Int) (a0_1 : ByteArray) (l0_2 : List ByteArray) (l0_3 : List (S60)) (l0_4 : List (S62)) (a1_0 : Int) (a1_1 : ByteArray) (l1_2 : List ByteArray) (l1_3 : List (S60)) (l1_4 : List (S62)) : Option (Bool) := (tipstafflaw09_shown.f).bind fun t447 => ((tipstaffref09_Fit.f k a0_0 a0_1 l0_2 l0_3 l0_4).bind fun bt448 => ((tipstaffref09_Fit.f k a1_0 a1_1 l1_2 l1_3 l1_4).bind fun bt460 => (if t447 = true then ((value_Same.f k bt448.1 bt448.2.1 bt448.2.2.1 bt448.2.2.2.1 bt448.2.2.2.2 bt460.1 bt460.2.1 bt460.2.2.1 bt460.2.2.2.1 bt460.2.2.2.2).bind fun t473 => ((value_Same.f k bt460.1 bt460.2.1 bt460.2.2.1 bt460.2.2.2.1 bt460.2.2.2.2 bt448.1 bt448.2.1 bt448.2.2.1 bt448.2.2.2.1 bt448.2.2.2.2).bind fun t474 => (if (t473 == t474) = true then (if bt448.1 = bt460.1 then ((value_Same.f k bt448.1 bt448.2.1 bt448.2.2.1 bt448.2.2.2.1 bt448.2.2.2.2 ((bt448.1 + 1) % 256) bt448.2.1 bt448.2.2.1 bt448.2.2.2.1 bt448.2.2.2.2).bind fun t475 => (if t475 = true then (some false) else ((value_Type.f bt448.1 bt448.2.1 bt448.2.2.1 bt448.2.2.2.1 bt448.2.2.2.2).bind fun t476 => ((value_Size.f k bt448.1 bt448.2.1 bt448.2.2.1 bt448.2.2.2.1 bt448.2.2.2.2).bind fun t477 => (if ((t476.toList == ([110, 111, 110, 101] : List UInt8)) == (t477 == 0)) = true then ((value_Type.f bt448.1 bt448.2.1 bt448.2.2.1 bt448.2.2.2.1 bt448.2.2.2.2).bind fun t478 => ((value_Type.f bt460.1 bt460.2.1 bt460.2.2.1 bt460.2.2.2.1 bt460.2.2.2.2).bind fun t479 => (some ((t478.toList == t479.toList) == (bt448.1 == bt460.1))))) else (some false)))))) else ((value_Same.f k bt448.1 bt448.2.1 bt448.2.2.1 bt448.2.2.2.1 bt448.2.2.2.2 bt460.1 bt460.2.1 bt460.2.2.1 bt460.2.2.2.1 bt460.2.2.2.2).bind fun t480 => (if t480 = true then (some false) else ((value_Same.f k bt448.1 bt448.2.1 bt448.2.2.1 bt448.2.2.2.1 bt448.2.2.2.2 ((bt448.1 + 1) % 256) bt448.2.1 bt448.2.2.1 bt448.2.2.2.1 bt448.2.2.2.2).bind fun t481 => (if t481 = true then (some false) else ((value_Type.f bt448.1 bt448.2.1 bt448.2.2.1 bt448.2.2.2.1 bt448.2.2.2.2).bind fun t482 => ((value_Size.f k bt448.1 bt448.2.1 bt448.2.2.1 bt448.2.2.2.1 bt448.2.2.2.2).bind fun t483 => (if ((t482.toList == ([110, 111, 110, 101] : List UInt8)) == (t483 == 0)) = true then ((value_Type.f bt448.1 bt448.2.1 bt448.2.2.1 bt448.2.2.2.1 bt448.2.2.2.2).bind fun t484 => ((value_Type.f bt460.1 bt460.2.1 bt460.2.2.1 bt460.2.2.2.1 bt460.2.2.2.2).bind fun t485 => (some ((t484.toList == t485.toList) == (bt448.1 == bt460.1))))) else (some false))))))))) else (some false)))) else (some false))))
theorem tipstafflaw09_ValueKinds.mono : ∀ a0 a1 a2 a3 a4 a5 a6 a7 a8 a9 k, LeO (tipstafflaw09_ValueKinds.f k a0 a1 a2 a3 a4 a5 a6 a7 a8 a9) (tipstafflaw09_ValueKinds.f (k + 1) a0 a1 a2 a3 a4 a5 a6 a7 a8 a9) := by
  intro a0 a1 a2 a3 a4 a5 a6 a7 a8 a9 k
  unfold tipstafflaw09_ValueKinds.f
  repeat' first
      | (with_reducible exact tipstaffref09_Fit.mono _ _ _ _ _ _)
      | (with_reducible exact value_Same.mono _ _ _ _ _ _ _ _ _ _ _)
      | (with_reducible exact value_Size.mono _ _ _ _ _ _)
      | (with_reducible exact LeO.refl _)
      | (with_reducible exact LeO.none _)
      | (with_reducible refine LeO.ite ?_ ?_)
      | (with_reducible refine LeO.bind ?_ (fun _ => ?_))
      | exact tipstaffref09_Fit.mono _ _ _ _ _ _
      | exact value_Same.mono _ _ _ _ _ _ _ _ _ _ _
      | exact value_Size.mono _ _ _ _ _ _
      | exact LeO.none _
      | refine LeO.ite ?_ ?_
      | refine LeO.bind ?_ (fun _ => ?_)
def tipstafflaw09_ValueKinds.T6 : Bool × List (List Nat × List Nat) := (true, [([], []), ([0], [0]), ([1], [1]), ([1], [1]), ([2, 3, 1, 1], [1, 2, 3]), ([1], [1]), ([1], [1]), ([5, 6, 4, 1], [1, 5, 6]), ([4, 7, 1], [1, 4, 7]), ([1, 8], [1, 8]), ([9, 7], [9]), ([10], [10]), ([11, 10], [10, 11]), ([10], [10]), ([13, 10], [10, 13]), ([12, 14, 10], [10, 12, 14]), ([15, 10, 10], [10, 15]), ([16], [16]), ([16], [16]), ([17, 18, 16, 16], [16, 17, 18]), ([19, 16], [16, 19]), ([16, 20, 10], [10, 16, 20]), ([10, 21], [10, 21]), ([22, 19], [22]), ([23], [23]), ([23], [23]), ([24, 25, 23, 23], [23, 24, 25]), ([26, 23], [23, 26]), ([23, 27], [23, 27]), ([28, 26], [28]), ([29], [29]), ([30, 29, 29], [29, 30]), ([31, 29], [29, 31]), ([29], [29]), ([33, 31, 29], [29, 33]), ([34, 29], [29, 34]), ([32, 35, 29], [29, 32, 35]), ([29, 36], [29, 36]), ([37, 34], [37]), ([38], [38]), ([39, 38, 38], [38, 39]), ([38], [38]), ([41, 40, 38], [38, 41]), ([40, 42, 38], [38, 40, 42]), ([38], [38]), ([44, 38], [38, 44]), ([38], [38]), ([46, 38], [38, 46]), ([45, 47, 38], [38, 45, 47]), ([43, 48, 38], [38, 43, 48]), ([38, 49], [38, 49]), ([50, 42, 0, 1, 2, 3, 4, 5, 6, 7, 8, 9, 10, 11, 12, 13, 14, 15, 16, 17, 18, 19, 20, 21, 22, 23, 24, 25, 26, 27, 28, 29, 30, 31, 32, 33, 34, 35, 36, 37, 38, 39, 40, 41, 42, 43, 44, 45, 46, 47, 48, 49, 50], [50])])
def tipstafflaw09_ValueKinds.B6 : List Nat := [0, 1, 3, 3, 15, 3, 3, 127, 255, 511, 1023, 2047, 4095, 2047, 10239, 32767, 65535, 131071, 131071, 524287, 1048575, 2097151, 4194303, 8388607, 16777215, 16777215, 67108863, 134217727, 268435455, 536870911, 1073741823, 2147483647, 4294967295, 1073741823, 12884901887, 30064771071, 68719476735, 137438953471, 274877906943, 549755813887, 1099511627775, 549755813887, 4398046511103, 8796093022207, 549755813887, 18141941858303, 549755813887, 70918499991551, 264432546480127, 562949953421311, 1125899906842623, 2251799813685247]
theorem tipstafflaw09_ValueKinds.tab6 : rtab .any (opsOf Try.f12 6) = tipstafflaw09_ValueKinds.T6 := by kernel_rfl
theorem tipstafflaw09_ValueKinds.bits6 : waitsOk tipstafflaw09_ValueKinds.T6.2 tipstafflaw09_ValueKinds.B6 = true := by kernel_rfl
end Go.Proofs.Ytbbgiedfkklojaa.X
