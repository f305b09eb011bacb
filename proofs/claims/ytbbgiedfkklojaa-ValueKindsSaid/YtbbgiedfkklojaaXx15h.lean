-- Written by a program of the session (wip/xprint.py): the kit's printer, beside contracts of the session's own.
import Derived.Test.YtbbgiedfkklojaaXx0
import Derived.Test.YtbbgiedfkklojaaXx1
import Derived.Test.YtbbgiedfkklojaaEOrd
import Derived.Test.YtbbgiedfkklojaaERises
import Derived.Test.YtbbgiedfkklojaaEUnlike
import Derived.Test.YtbbgiedfkklojaaStrOrd
namespace Go.Proofs.Ytbbgiedfkklojaa.X
open Go.RowKit Go.Proofs.YtbbgiedfkklojaaW.PrintWords Go.Proofs.YtbbgiedfkklojaaW.PrintLast Go.Proofs.YtbbgiedfkklojaaW.PrintMore
attribute [local go_sem] binOp_str_gtr binOp_str_leq binOp_str_geq max2_int min2_int max_two min_two max_three min_three max_four min_four   -- for this text's walks alone
set_option linter.unusedVariables false
set_option linter.unusedSimpArgs false

/-! ### value_Right: function 42 -/
def value_Right.f (k : Nat) (a0_0 : Int) (a0_1 : ByteArray) (l0_2 : List ByteArray) (l0_3 : List (S60)) (l0_4 : List (S62)) : Option (Bool) := if a0_0 = 1 then ((value_Same.f k a0_0 a0_1 l0_2 l0_3 l0_4 a0_0 a0_1 ([] : List ByteArray) ([] : List (S60)) ([] : List (S62))).bind fun t166 => (some t166)) else (if a0_0 = 2 then (if (l0_2.length : Int) > 0 then ((value_Same.f k a0_0 a0_1 l0_2 l0_3 l0_4 a0_0 (⟨#[]⟩ : ByteArray) l0_2 ([] : List (S60)) ([] : List (S62))).bind fun t167 => (some t167)) else (some false)) else (if a0_0 = 4 then (if (l0_2.length : Int) > 0 then ((value_rises_string.f l0_2).bind fun t168 => (if t168 = true then ((value_Same.f k a0_0 a0_1 l0_2 l0_3 l0_4 a0_0 (⟨#[]⟩ : ByteArray) l0_2 ([] : List (S60)) ([] : List (S62))).bind fun t169 => (some t169)) else (some false))) else (some false)) else (if a0_0 = 3 then (if (l0_3.length : Int) > 0 then ((api_Pair_65.f l0_3).bind fun t170 => (if t170 = true then ((value_Same.f k a0_0 a0_1 l0_2 l0_3 l0_4 a0_0 (⟨#[]⟩ : ByteArray) ([] : List ByteArray) l0_3 ([] : List (S62))).bind fun t171 => (some t171)) else (some false))) else (some false)) else (if a0_0 = 5 then (if (l0_4.length : Int) > 0 then ((api_Mark_67.f l0_4).bind fun t172 => (if t172 = true then ((value_unlike.f l0_4).bind fun t173 => (if t173 = true then ((value_Same.f k a0_0 a0_1 l0_2 l0_3 l0_4 a0_0 (⟨#[]⟩ : ByteArray) ([] : List ByteArray) ([] : List (S60)) l0_4).bind fun t174 => (some t174)) else (some false))) else (some false))) else (some false)) else (if a0_0 = 0 then ((value_Same.f k a0_0 a0_1 l0_2 l0_3 l0_4 a0_0 (⟨#[]⟩ : ByteArray) ([] : List ByteArray) ([] : List (S60)) ([] : List (S62))).bind fun t175 => (some t175)) else (some false))))))
theorem value_Right.mono : ∀ a0 a1 a2 a3 a4 k, LeO (value_Right.f k a0 a1 a2 a3 a4) (value_Right.f (k + 1) a0 a1 a2 a3 a4) := by
  intro a0 a1 a2 a3 a4 k
  unfold value_Right.f
  repeat' first
      | (with_reducible exact value_Same.mono _ _ _ _ _ _ _ _ _ _ _)
      | (with_reducible exact LeO.refl _)
      | (with_reducible exact LeO.none _)
      | (with_reducible refine LeO.ite ?_ ?_)
      | (with_reducible refine LeO.bind ?_ (fun _ => ?_))
      | exact value_Same.mono _ _ _ _ _ _ _ _ _ _ _
      | exact LeO.none _
      | refine LeO.ite ?_ ?_
      | refine LeO.bind ?_ (fun _ => ?_)
def value_Right.T7 : Bool × List (List Nat × List Nat) := (true, [([], []), ([0], [0]), ([], []), ([2], [2]), ([3], [3]), ([4], [4]), ([0, 1], []), ([6, 1, 0, 1], [1, 6]), ([5, 7, 0, 1, 2, 3, 4, 5, 6, 7], [5])])
def value_Right.B7 : List Nat := [0, 1, 0, 4, 12, 28, 3, 67, 255]
theorem value_Right.tab7 : rtab .any (opsOf Try.f42 7) = value_Right.T7 := by kernel_rfl
theorem value_Right.bits7 : waitsOk value_Right.T7.2 value_Right.B7 = true := by kernel_rfl
def value_Right.T9 : Bool × List (List Nat × List Nat) := (true, [([], []), ([0], [0]), ([], []), ([2], [2]), ([3], [3]), ([4], [4]), ([5], [5]), ([6], [6]), ([7, 6], [6, 7]), ([8, 6, 6], [6, 8]), ([6, 9], [6, 9]), ([0, 1], []), ([11, 1, 9, 0, 1], [1, 11]), ([10, 12, 0, 1, 2, 3, 4, 5, 6, 7, 8, 9, 10, 11, 12], [10])])
def value_Right.B9 : List Nat := [0, 1, 0, 4, 12, 28, 60, 124, 252, 508, 1020, 3, 3071, 8191]
theorem value_Right.tab9 : rtab .any (opsOf Try.f42 9) = value_Right.T9 := by kernel_rfl
theorem value_Right.bits9 : waitsOk value_Right.T9.2 value_Right.B9 = true := by kernel_rfl
def value_Right.T11 : Bool × List (List Nat × List Nat) := (true, [([], []), ([0], [0]), ([], []), ([2], [2]), ([3], [3]), ([4], [4]), ([5], [5]), ([6], [6]), ([7, 6], [6, 7]), ([8, 6, 6], [6, 8]), ([6, 9], [6, 9]), ([0, 1], []), ([11, 1, 9, 0, 1], [1, 11]), ([10, 12, 0, 1, 2, 3, 4, 5, 6, 7, 8, 9, 10, 11, 12], [10])])
def value_Right.B11 : List Nat := [0, 1, 0, 4, 12, 28, 60, 124, 252, 508, 1020, 3, 3071, 8191]
theorem value_Right.tab11 : rtab .any (opsOf Try.f42 11) = value_Right.T11 := by kernel_rfl
theorem value_Right.bits11 : waitsOk value_Right.T11.2 value_Right.B11 = true := by kernel_rfl
def value_Right.T13 : Bool × List (List Nat × List Nat) := (true, [([], []), ([0], [0]), ([], []), ([2], [2]), ([3], [3]), ([4], [4]), ([5], [5]), ([6], [6]), ([7, 6], [6, 7]), ([8, 6, 6], [6, 8]), ([6, 9], [6, 9]), ([10, 9], [10]), ([11], [11]), ([12, 11], [11, 12]), ([13, 11, 11], [11, 13]), ([11, 14], [11, 14]), ([0, 1], []), ([16, 1, 14, 0, 1], [1, 16]), ([15, 17, 0, 1, 2, 3, 4, 5, 6, 7, 8, 9, 10, 11, 12, 13, 14, 15, 16, 17], [15])])
def value_Right.B13 : List Nat := [0, 1, 0, 4, 12, 28, 60, 124, 252, 508, 1020, 2044, 4092, 8188, 16380, 32764, 3, 98303, 262143]
theorem value_Right.tab13 : rtab .any (opsOf Try.f42 13) = value_Right.T13 := by kernel_rfl
theorem value_Right.bits13 : waitsOk value_Right.T13.2 value_Right.B13 = true := by kernel_rfl
end Go.Proofs.Ytbbgiedfkklojaa.X
