-- Written by a program of the session (wip/xprint.py): the kit's printer, beside contracts of the session's own.
import Derived.Test.YtbbgiedfkklojaaXx0
import Derived.Test.YtbbgiedfkklojaaXx18
import Derived.Test.YtbbgiedfkklojaaXx6
import Derived.Test.YtbbgiedfkklojaaXx9
import Derived.Test.YtbbgiedfkklojaaEShown
import Derived.Laws.Cover1
namespace Go.Proofs.Ytbbgiedfkklojaa.X
open Go.RowKit Go.Proofs.YtbbgiedfkklojaaW.PrintWords Go.Proofs.YtbbgiedfkklojaaW.PrintLast Go.Proofs.YtbbgiedfkklojaaW.PrintMore
attribute [local go_sem] max2_int min2_int max_two min_two max_three min_three max_four min_four   -- for this text's walks alone
set_option linter.unusedVariables false
set_option linter.unusedSimpArgs false

/-! ### tipstafflaw09_ValueOwn: function 9 -/
mutual
def tipstafflaw09_ValueOwn.j0 : Nat → Bool → Int → ByteArray → List ByteArray → List (S60) → List (S62) → Int → ByteArray → List ByteArray → List (S60) → List (S62) → Int → ByteArray → List ByteArray → List (S60) → List (S62) → Option (Bool)
  | 0, _, _, _, _, _, _, _, _, _, _, _, _, _, _, _, _ => none
  | k + 1, x24, x238000, x238001, x238002, x238003, x238004, x250000, x250001, x250002, x250003, x250004, x262000, x262001, x262002, x262003, x262004 => if x24 = true then (some false) else (tipstafflaw09_ValueOwn.l0 k 0 x238000 x238001 x238002 x238003 x238004 x250000 x250001 x250002 x250003 x250004 x262000 x262001 x262002 x262003 x262004)
def tipstafflaw09_ValueOwn.l0 : Nat → Int → Int → ByteArray → List ByteArray → List (S60) → List (S62) → Int → ByteArray → List ByteArray → List (S60) → List (S62) → Int → ByteArray → List ByteArray → List (S60) → List (S62) → Option (Bool)
  | 0, _, _, _, _, _, _, _, _, _, _, _, _, _, _, _, _ => none
  | k + 1, x7, x238000, x238001, x238002, x238003, x238004, x250000, x250001, x250002, x250003, x250004, x262000, x262001, x262002, x262003, x262004 => if x7 < (x262002.length : Int) then (if 0 ≤ x7 then (if (rdOf ByteArray.empty x262002 x7).size + 1 ≤ 9223372036854775807 then (tipstafflaw09_ValueOwn.l0 k (wrap64 (x7 + 1)) x238000 x238001 x238002 x238003 x238004 x250000 x250001 x250002 x250003 x250004 x262000 x262001 (x262002.set (x7 : Int).toNat ((rdOf ByteArray.empty x262002 x7) ++ (⟨#[122]⟩ : ByteArray))) x262003 x262004) else (none)) else (none)) else (tipstafflaw09_ValueOwn.l1 k 0 x238000 x238001 x238002 x238003 x238004 x250000 x250001 x250002 x250003 x250004 x262000 x262001 x262002 x262003 x262004)
def tipstafflaw09_ValueOwn.l1 : Nat → Int → Int → ByteArray → List ByteArray → List (S60) → List (S62) → Int → ByteArray → List ByteArray → List (S60) → List (S62) → Int → ByteArray → List ByteArray → List (S60) → List (S62) → Option (Bool)
  | 0, _, _, _, _, _, _, _, _, _, _, _, _, _, _, _, _ => none
  | k + 1, x8, x238000, x238001, x238002, x238003, x238004, x250000, x250001, x250002, x250003, x250004, x262000, x262001, x262002, x262003, x262004 => if x8 < (x262003.length : Int) then (if 0 ≤ x8 then (if ((rd_T60 x262003 x8).f1).size + 1 ≤ 9223372036854775807 then (tipstafflaw09_ValueOwn.l1 k (wrap64 (x8 + 1)) x238000 x238001 x238002 x238003 x238004 x250000 x250001 x250002 x250003 x250004 x262000 x262001 x262002 (x262003.set (x8 : Int).toNat (⟨(rd_T60 x262003 x8).f0, ((rd_T60 x262003 x8).f1) ++ (⟨#[122]⟩ : ByteArray)⟩ : S60)) x262004) else (none)) else (none)) else (tipstafflaw09_ValueOwn.l2 k 0 x238000 x238001 x238002 x238003 x238004 x250000 x250001 x250002 x250003 x250004 x262000 x262001 x262002 x262003 x262004)
def tipstafflaw09_ValueOwn.l2 : Nat → Int → Int → ByteArray → List ByteArray → List (S60) → List (S62) → Int → ByteArray → List ByteArray → List (S60) → List (S62) → Int → ByteArray → List ByteArray → List (S60) → List (S62) → Option (Bool)
  | 0, _, _, _, _, _, _, _, _, _, _, _, _, _, _, _, _ => none
  | k + 1, x9, x238000, x238001, x238002, x238003, x238004, x250000, x250001, x250002, x250003, x250004, x262000, x262001, x262002, x262003, x262004 => if x9 < (x262004.length : Int) then (if 0 ≤ x9 then (if ((rd_T62 x262004 x9).f0).size + 1 ≤ 9223372036854775807 then (tipstafflaw09_ValueOwn.l2 k (wrap64 (x9 + 1)) x238000 x238001 x238002 x238003 x238004 x250000 x250001 x250002 x250003 x250004 x262000 x262001 x262002 x262003 (x262004.set (x9 : Int).toNat (⟨((rd_T62 x262004 x9).f0) ++ (⟨#[122]⟩ : ByteArray), (rd_T62 x262004 x9).f1⟩ : S62))) else (none)) else (none)) else ((value_Same.f k x238000 x238001 x238002 x238003 x238004 x250000 x250001 x250002 x250003 x250004).bind fun t269 => (if t269 = true then ((value_Same.f k x262000 x262001 x262002 x262003 x262004 x238000 x238001 x238002 x238003 x238004).bind fun t270 => (some (t270 == ((wrap64 ((wrap64 ((x238002.length : Int) + (x238003.length : Int))) + (x238004.length : Int))) == 0)))) else (some false)))
end
def tipstafflaw09_ValueOwn.f (k : Nat) (a0_0 : Int) (a0_1 : ByteArray) (l0_2 : List ByteArray) (l0_3 : List (S60)) (l0_4 : List (S62)) : Option (Bool) := (tipstafflaw09_shown.f).bind fun t225 => ((tipstaffref09_Small.f a0_0 a0_1 l0_2 l0_3 l0_4).bind fun bt226 => ((tipstaffref09_Small.f a0_0 a0_1 l0_2 l0_3 l0_4).bind fun bt238 => ((value_Own.f bt226.1 bt226.2.1 bt226.2.2.1 bt226.2.2.2.1 bt226.2.2.2.2).bind fun bt250 => (if t225 = true then ((value_Same.f k bt250.1 bt250.2.1 bt250.2.2.1 bt250.2.2.2.1 bt250.2.2.2.2 bt226.1 bt226.2.1 bt226.2.2.1 bt226.2.2.2.1 bt226.2.2.2.2).bind fun t262 => (tipstafflaw09_ValueOwn.j0 k (!t262) bt226.1 bt226.2.1 bt226.2.2.1 bt226.2.2.2.1 bt226.2.2.2.2 bt238.1 bt238.2.1 bt238.2.2.1 bt238.2.2.2.1 bt238.2.2.2.2 bt250.1 bt250.2.1 bt250.2.2.1 bt250.2.2.2.1 bt250.2.2.2.2)) else (tipstafflaw09_ValueOwn.j0 k true bt226.1 bt226.2.1 bt226.2.2.1 bt226.2.2.2.1 bt226.2.2.2.2 bt238.1 bt238.2.1 bt238.2.2.1 bt238.2.2.2.1 bt238.2.2.2.2 bt250.1 bt250.2.1 bt250.2.2.1 bt250.2.2.2.1 bt250.2.2.2.2)))))
theorem tipstafflaw09_ValueOwn.mono_l : ∀ k, (∀ y0 y1 y2 y3 y4 y5 y6 y7 y8 y9 y10 y11 y12 y13 y14 y15, LeO (tipstafflaw09_ValueOwn.j0 k y0 y1 y2 y3 y4 y5 y6 y7 y8 y9 y10 y11 y12 y13 y14 y15) (tipstafflaw09_ValueOwn.j0 (k + 1) y0 y1 y2 y3 y4 y5 y6 y7 y8 y9 y10 y11 y12 y13 y14 y15)) ∧ (∀ y0 y1 y2 y3 y4 y5 y6 y7 y8 y9 y10 y11 y12 y13 y14 y15, LeO (tipstafflaw09_ValueOwn.l0 k y0 y1 y2 y3 y4 y5 y6 y7 y8 y9 y10 y11 y12 y13 y14 y15) (tipstafflaw09_ValueOwn.l0 (k + 1) y0 y1 y2 y3 y4 y5 y6 y7 y8 y9 y10 y11 y12 y13 y14 y15)) ∧ (∀ y0 y1 y2 y3 y4 y5 y6 y7 y8 y9 y10 y11 y12 y13 y14 y15, LeO (tipstafflaw09_ValueOwn.l1 k y0 y1 y2 y3 y4 y5 y6 y7 y8 y9 y10 y11 y12 y13 y14 y15) (tipstafflaw09_ValueOwn.l1 (k + 1) y0 y1 y2 y3 y4 y5 y6 y7 y8 y9 y10 y11 y12 y13 y14 y15)) ∧ (∀ y0 y1 y2 y3 y4 y5 y6 y7 y8 y9 y10 y11 y12 y13 y14 y15, LeO (tipstafflaw09_ValueOwn.l2 k y0 y1 y2 y3 y4 y5 y6 y7 y8 y9 y10 y11 y12 y13 y14 y15) (tipstafflaw09_ValueOwn.l2 (k + 1) y0 y1 y2 y3 y4 y5 y6 y7 y8 y9 y10 y11 y12 y13 y14 y15))
  | 0 => ⟨fun _ _ _ _ _ _ _ _ _ _ _ _ _ _ _ _ r h => by simp [tipstafflaw09_ValueOwn.j0] at h, fun _ _ _ _ _ _ _ _ _ _ _ _ _ _ _ _ r h => by simp [tipstafflaw09_ValueOwn.l0] at h, fun _ _ _ _ _ _ _ _ _ _ _ _ _ _ _ _ r h => by simp [tipstafflaw09_ValueOwn.l1] at h, fun _ _ _ _ _ _ _ _ _ _ _ _ _ _ _ _ r h => by simp [tipstafflaw09_ValueOwn.l2] at h⟩
  | k + 1 => by
    obtain ⟨ih0, ih1, ih2, ih3⟩ := tipstafflaw09_ValueOwn.mono_l k
    refine ⟨?_, ?_, ?_, ?_⟩
    · intro y0 y1 y2 y3 y4 y5 y6 y7 y8 y9 y10 y11 y12 y13 y14 y15
      unfold tipstafflaw09_ValueOwn.j0
      repeat' first
      | (with_reducible exact ih0 _ _ _ _ _ _ _ _ _ _ _ _ _ _ _ _)
      | (with_reducible exact ih1 _ _ _ _ _ _ _ _ _ _ _ _ _ _ _ _)
      | (with_reducible exact ih2 _ _ _ _ _ _ _ _ _ _ _ _ _ _ _ _)
      | (with_reducible exact ih3 _ _ _ _ _ _ _ _ _ _ _ _ _ _ _ _)
      | (with_reducible exact value_Same.mono _ _ _ _ _ _ _ _ _ _ _)
      | (with_reducible exact LeO.refl _)
      | (with_reducible exact LeO.none _)
      | (with_reducible refine LeO.ite ?_ ?_)
      | (with_reducible refine LeO.bind ?_ (fun _ => ?_))
      | exact ih0 _ _ _ _ _ _ _ _ _ _ _ _ _ _ _ _
      | exact ih1 _ _ _ _ _ _ _ _ _ _ _ _ _ _ _ _
      | exact ih2 _ _ _ _ _ _ _ _ _ _ _ _ _ _ _ _
      | exact ih3 _ _ _ _ _ _ _ _ _ _ _ _ _ _ _ _
      | exact value_Same.mono _ _ _ _ _ _ _ _ _ _ _
      | exact LeO.none _
      | refine LeO.ite ?_ ?_
      | refine LeO.bind ?_ (fun _ => ?_)
    · intro y0 y1 y2 y3 y4 y5 y6 y7 y8 y9 y10 y11 y12 y13 y14 y15
      unfold tipstafflaw09_ValueOwn.l0
      repeat' first
      | (with_reducible exact ih0 _ _ _ _ _ _ _ _ _ _ _ _ _ _ _ _)
      | (with_reducible exact ih1 _ _ _ _ _ _ _ _ _ _ _ _ _ _ _ _)
      | (with_reducible exact ih2 _ _ _ _ _ _ _ _ _ _ _ _ _ _ _ _)
      | (with_reducible exact ih3 _ _ _ _ _ _ _ _ _ _ _ _ _ _ _ _)
      | (with_reducible exact value_Same.mono _ _ _ _ _ _ _ _ _ _ _)
      | (with_reducible exact LeO.refl _)
      | (with_reducible exact LeO.none _)
      | (with_reducible refine LeO.ite ?_ ?_)
      | (with_reducible refine LeO.bind ?_ (fun _ => ?_))
      | exact ih0 _ _ _ _ _ _ _ _ _ _ _ _ _ _ _ _
      | exact ih1 _ _ _ _ _ _ _ _ _ _ _ _ _ _ _ _
      | exact ih2 _ _ _ _ _ _ _ _ _ _ _ _ _ _ _ _
      | exact ih3 _ _ _ _ _ _ _ _ _ _ _ _ _ _ _ _
      | exact value_Same.mono _ _ _ _ _ _ _ _ _ _ _
      | exact LeO.none _
      | refine LeO.ite ?_ ?_
      | refine LeO.bind ?_ (fun _ => ?_)
    · intro y0 y1 y2 y3 y4 y5 y6 y7 y8 y9 y10 y11 y12 y13 y14 y15
      unfold tipstafflaw09_ValueOwn.l1
      repeat' first
      | (with_reducible exact ih0 _ _ _ _ _ _ _ _ _ _ _ _ _ _ _ _)
      | (with_reducible exact ih1 _ _ _ _ _ _ _ _ _ _ _ _ _ _ _ _)
      | (with_reducible exact ih2 _ _ _ _ _ _ _ _ _ _ _ _ _ _ _ _)
      | (with_reducible exact ih3 _ _ _ _ _ _ _ _ _ _ _ _ _ _ _ _)
      | (with_reducible exact value_Same.mono _ _ _ _ _ _ _ _ _ _ _)
      | (with_reducible exact LeO.refl _)
      | (with_reducible exact LeO.none _)
      | (with_reducible refine LeO.ite ?_ ?_)
      | (with_reducible refine LeO.bind ?_ (fun _ => ?_))
      | exact ih0 _ _ _ _ _ _ _ _ _ _ _ _ _ _ _ _
      | exact ih1 _ _ _ _ _ _ _ _ _ _ _ _ _ _ _ _
      | exact ih2 _ _ _ _ _ _ _ _ _ _ _ _ _ _ _ _
      | exact ih3 _ _ _ _ _ _ _ _ _ _ _ _ _ _ _ _
      | exact value_Same.mono _ _ _ _ _ _ _ _ _ _ _
      | exact LeO.none _
      | refine LeO.ite ?_ ?_
      | refine LeO.bind ?_ (fun _ => ?_)
    · intro y0 y1 y2 y3 y4 y5 y6 y7 y8 y9 y10 y11 y12 y13 y14 y15
      unfold tipstafflaw09_ValueOwn.l2
      repeat' first
      | (with_reducible exact ih0 _ _ _ _ _ _ _ _ _ _ _ _ _ _ _ _)
      | (with_reducible exact ih1 _ _ _ _ _ _ _ _ _ _ _ _ _ _ _ _)
      | (with_reducible exact ih2 _ _ _ _ _ _ _ _ _ _ _ _ _ _ _ _)
      | (with_reducible exact ih3 _ _ _ _ _ _ _ _ _ _ _ _ _ _ _ _)
      | (with_reducible exact value_Same.mono _ _ _ _ _ _ _ _ _ _ _)
      | (with_reducible exact LeO.refl _)
      | (with_reducible exact LeO.none _)
      | (with_reducible refine LeO.ite ?_ ?_)
      | (with_reducible refine LeO.bind ?_ (fun _ => ?_))
      | exact ih0 _ _ _ _ _ _ _ _ _ _ _ _ _ _ _ _
      | exact ih1 _ _ _ _ _ _ _ _ _ _ _ _ _ _ _ _
      | exact ih2 _ _ _ _ _ _ _ _ _ _ _ _ _ _ _ _
      | exact ih3 _ _ _ _ _ _ _ _ _ _ _ _ _ _ _ _
      | exact value_Same.mono _ _ _ _ _ _ _ _ _ _ _
      | exact LeO.none _
      | refine LeO.ite ?_ ?_
      | refine LeO.bind ?_ (fun _ => ?_)
theorem tipstafflaw09_ValueOwn.mono : ∀ a0 a1 a2 a3 a4 k, LeO (tipstafflaw09_ValueOwn.f k a0 a1 a2 a3 a4) (tipstafflaw09_ValueOwn.f (k + 1) a0 a1 a2 a3 a4) := by
  intro a0 a1 a2 a3 a4 k
  obtain ⟨ih0, ih1, ih2, ih3⟩ := tipstafflaw09_ValueOwn.mono_l k
  unfold tipstafflaw09_ValueOwn.f
  repeat' first
      | (with_reducible exact ih0 _ _ _ _ _ _ _ _ _ _ _ _ _ _ _ _)
      | (with_reducible exact ih1 _ _ _ _ _ _ _ _ _ _ _ _ _ _ _ _)
      | (with_reducible exact ih2 _ _ _ _ _ _ _ _ _ _ _ _ _ _ _ _)
      | (with_reducible exact ih3 _ _ _ _ _ _ _ _ _ _ _ _ _ _ _ _)
      | (with_reducible exact value_Same.mono _ _ _ _ _ _ _ _ _ _ _)
      | (with_reducible exact LeO.refl _)
      | (with_reducible exact LeO.none _)
      | (with_reducible refine LeO.ite ?_ ?_)
      | (with_reducible refine LeO.bind ?_ (fun _ => ?_))
      | exact ih0 _ _ _ _ _ _ _ _ _ _ _ _ _ _ _ _
      | exact ih1 _ _ _ _ _ _ _ _ _ _ _ _ _ _ _ _
      | exact ih2 _ _ _ _ _ _ _ _ _ _ _ _ _ _ _ _
      | exact ih3 _ _ _ _ _ _ _ _ _ _ _ _ _ _ _ _
      | exact value_Same.mono _ _ _ _ _ _ _ _ _ _ _
      | exact LeO.none _
      | refine LeO.ite ?_ ?_
      | refine LeO.bind ?_ (fun _ => ?_)
def tipstafflaw09_ValueOwn.T10 : Bool × List (List Nat × List Nat) := (true, [([], []), ([0], [0]), ([], []), ([], []), ([3], [3]), ([], []), ([4, 5], [4, 5]), ([6], [6]), ([7], [7]), ([1, 2, 0, 1, 2, 3, 4, 5, 6, 7, 8], [1, 2]), ([9, 8, 0, 1, 2, 3, 4, 5, 6, 7, 8], [8, 9])])
def tipstafflaw09_ValueOwn.B10 : List Nat := [0, 1, 0, 0, 8, 0, 56, 120, 248, 511, 1023]
theorem tipstafflaw09_ValueOwn.tab10 : rtab .any (opsOf Try.f9 10) = tipstafflaw09_ValueOwn.T10 := by kernel_rfl
theorem tipstafflaw09_ValueOwn.bits10 : waitsOk tipstafflaw09_ValueOwn.T10.2 tipstafflaw09_ValueOwn.B10 = true := by kernel_rfl
def tipstafflaw09_ValueOwn.T14 : Bool × List (List Nat × List Nat) := (true, [([], []), ([0], [0]), ([], []), ([], []), ([3], [3]), ([], []), ([4, 5], [4, 5]), ([6], [6]), ([7], [7]), ([8], [8]), ([1, 2, 0, 1, 2, 3, 4, 5, 6, 7, 8, 9], [1, 2]), ([10, 0, 1, 2, 3, 4, 5, 6, 7, 8, 9], [10]), ([11, 9, 0, 1, 2, 3, 4, 5, 6, 7, 8, 9], [9, 11])])
def tipstafflaw09_ValueOwn.B14 : List Nat := [0, 1, 0, 0, 8, 0, 56, 120, 248, 504, 1023, 2047, 4095]
theorem tipstafflaw09_ValueOwn.tab14 : rtab .any (opsOf Try.f9 14) = tipstafflaw09_ValueOwn.T14 := by kernel_rfl
theorem tipstafflaw09_ValueOwn.bits14 : waitsOk tipstafflaw09_ValueOwn.T14.2 tipstafflaw09_ValueOwn.B14 = true := by kernel_rfl
def tipstafflaw09_ValueOwn.T18 : Bool × List (List Nat × List Nat) := (true, [([], []), ([0], [0]), ([], []), ([], []), ([3], [3]), ([], []), ([4, 5], [4, 5]), ([6], [6]), ([7], [7]), ([8], [8]), ([1, 2, 0, 1, 2, 3, 4, 5, 6, 7, 8, 9], [1, 2]), ([10, 0, 1, 2, 3, 4, 5, 6, 7, 8, 9], [10]), ([11, 9, 0, 1, 2, 3, 4, 5, 6, 7, 8, 9], [9, 11])])
def tipstafflaw09_ValueOwn.B18 : List Nat := [0, 1, 0, 0, 8, 0, 56, 120, 248, 504, 1023, 2047, 4095]
theorem tipstafflaw09_ValueOwn.tab18 : rtab .any (opsOf Try.f9 18) = tipstafflaw09_ValueOwn.T18 := by kernel_rfl
theorem tipstafflaw09_ValueOwn.bits18 : waitsOk tipstafflaw09_ValueOwn.T18.2 tipstafflaw09_ValueOwn.B18 = true := by kernel_rfl
def tipstafflaw09_ValueOwn.T19 : Bool × List (List Nat × List Nat) := (true, [([], []), ([], []), ([0, 1], [0, 1]), ([2, 2], [2]), ([3], [3]), ([3], [3]), ([4, 5, 3, 3], [3, 4, 5]), ([3], [3]), ([7, 3], [3, 7]), ([8, 3], [3, 8]), ([3], [3]), ([10, 3], [3, 10]), ([11, 3], [3, 11]), ([9, 12, 3], [3, 9, 12]), ([3], [3]), ([14, 3], [3, 14]), ([15, 3], [3, 15]), ([13, 16, 3], [3, 13, 16]), ([17, 3], [3, 17]), ([6, 18, 3], [3, 6, 18]), ([3, 19], [3, 19]), ([20, 6, 0, 1, 2, 3, 4, 5, 6, 7, 8, 9, 10, 11, 12, 13, 14, 15, 16, 17, 18, 19, 20], [20])])
def tipstafflaw09_ValueOwn.B19 : List Nat := [0, 0, 3, 7, 15, 15, 63, 15, 143, 399, 15, 1039, 3087, 8079, 15, 16399, 49167, 130959, 262031, 524287, 1048575, 2097151]
theorem tipstafflaw09_ValueOwn.tab19 : rtab .any (opsOf Try.f9 19) = tipstafflaw09_ValueOwn.T19 := by kernel_rfl
theorem tipstafflaw09_ValueOwn.bits19 : waitsOk tipstafflaw09_ValueOwn.T19.2 tipstafflaw09_ValueOwn.B19 = true := by kernel_rfl
set_option maxHeartbeats 8000000 in
set_option maxRecDepth 100000 in
theorem tipstafflaw09_ValueOwn.calls (k : Nat) (a0_0 : Int) (a0_1 : ByteArray) (A0_2 : Option Addr) (c0_2 : Nat) (l0_2 : List ByteArray) (A0_3 : Option Addr) (c0_3 : Nat) (l0_3 : List (S60)) (A0_4 : Option Addr) (c0_4 : Nat) (l0_4 : List (S62)) (r : Bool) (w : World) (hr0_2 : Kd.C Kd.string w A0_2 l0_2.length l0_2) (hc0_2 : l0_2.length ≤ c0_2) (hr0_3 : Kd.C k60 w A0_3 l0_3.length l0_3) (hc0_3 : l0_3.length ≤ c0_3) (hr0_4 : Kd.C k62 w A0_4 l0_4.length l0_4) (hc0_4 : l0_4.length ≤ c0_4) (h : tipstafflaw09_ValueOwn.f k a0_0 a0_1 l0_2 l0_3 l0_4 = some r) :
    Calls Try.prog 9 #[.agg #[.int .u8 a0_0, .string a0_1, .slice A0_2 l0_2.length c0_2, .slice A0_3 l0_3.length c0_3, .slice A0_4 l0_4.length c0_4]] w fun e w' => e = .returned (.bool r) ∧ Below w.heap.size w w' := by
  have hu26 := Try.underlying26
  have HR0_2 := Aside0.mk hr0_2
  have HC0_2 := Aside0.mk hc0_2
  clear hr0_2 hc0_2
  have HR0_3 := Aside0.mk hr0_3
  have HC0_3 := Aside0.mk hc0_3
  clear hr0_3 hc0_3
  have HR0_4 := Aside0.mk hr0_4
  have HC0_4 := Aside0.mk hc0_4
  clear hr0_4 hc0_4
  have HB := Aside0.mk (Below.refl w.heap.size w)
  have H : ((tipstafflaw09_shown.f).bind fun t225 => ((tipstaffref09_Small.f a0_0 a0_1 l0_2 l0_3 l0_4).bind fun bt226 => ((tipstaffref09_Small.f a0_0 a0_1 l0_2 l0_3 l0_4).bind fun bt238 => ((value_Own.f bt226.1 bt226.2.1 bt226.2.2.1 bt226.2.2.2.1 bt226.2.2.2.2).bind fun bt250 => (if t225 = true then ((value_Same.f k bt250.1 bt250.2.1 bt250.2.2.1 bt250.2.2.2.1 bt250.2.2.2.2 bt226.1 bt226.2.1 bt226.2.2.1 bt226.2.2.2.1 bt226.2.2.2.2).bind fun t262 => (tipstafflaw09_ValueOwn.j0 k (!t262) bt226.1 bt226.2.1 bt226.2.2.1 bt226.2.2.2.1 bt226.2.2.2.2 bt238.1 bt238.2.1 bt238.2.2.1 bt238.2.2.2.1 bt238.2.2.2.2 bt250.1 bt250.2.1 bt250.2.2.1 bt250.2.2.2.1 bt250.2.2.2.2)) else (tipstafflaw09_ValueOwn.j0 k true bt226.1 bt226.2.1 bt226.2.2.1 bt226.2.2.2.1 bt226.2.2.2.2 bt238.1 bt238.2.1 bt238.2.2.1 bt238.2.2.2.1 bt238.2.2.2.2 bt250.1 bt250.2.1 bt250.2.2.1 bt250.2.2.2.1 bt250.2.2.2.2)))))) = some r := h
  clear h
  replace H := Option.bind_eq_some_iff.mp H
  obtain ⟨t225, A20, H⟩ := H
  replace H : ((tipstaffref09_Small.f a0_0 a0_1 l0_2 l0_3 l0_4).bind fun bt226 => ((tipstaffref09_Small.f a0_0 a0_1 l0_2 l0_3 l0_4).bind fun bt238 => ((value_Own.f bt226.1 bt226.2.1 bt226.2.2.1 bt226.2.2.2.1 bt226.2.2.2.2).bind fun bt250 => (if t225 = true then ((value_Same.f k bt250.1 bt250.2.1 bt250.2.2.1 bt250.2.2.2.1 bt250.2.2.2.2 bt226.1 bt226.2.1 bt226.2.2.1 bt226.2.2.2.1 bt226.2.2.2.2).bind fun t262 => (tipstafflaw09_ValueOwn.j0 k (!t262) bt226.1 bt226.2.1 bt226.2.2.1 bt226.2.2.2.1 bt226.2.2.2.2 bt238.1 bt238.2.1 bt238.2.2.1 bt238.2.2.2.1 bt238.2.2.2.2 bt250.1 bt250.2.1 bt250.2.2.1 bt250.2.2.2.1 bt250.2.2.2.2)) else (tipstafflaw09_ValueOwn.j0 k true bt226.1 bt226.2.1 bt226.2.2.1 bt226.2.2.2.1 bt226.2.2.2.2 bt238.1 bt238.2.1 bt238.2.2.1 bt238.2.2.2.1 bt238.2.2.2.2 bt250.1 bt250.2.1 bt250.2.2.1 bt250.2.2.2.1 bt250.2.2.2.2))))) = some r := H
  have A2 := Aside0.mk A20
  clear A20
  replace H := Option.bind_eq_some_iff.mp H
  obtain ⟨⟨t226, t227, t228, t231, t234⟩, A30, H⟩ := H
  replace H : ((tipstaffref09_Small.f a0_0 a0_1 l0_2 l0_3 l0_4).bind fun bt238 => ((value_Own.f t226 t227 t228 t231 t234).bind fun bt250 => (if t225 = true then ((value_Same.f k bt250.1 bt250.2.1 bt250.2.2.1 bt250.2.2.2.1 bt250.2.2.2.2 t226 t227 t228 t231 t234).bind fun t262 => (tipstafflaw09_ValueOwn.j0 k (!t262) t226 t227 t228 t231 t234 bt238.1 bt238.2.1 bt238.2.2.1 bt238.2.2.2.1 bt238.2.2.2.2 bt250.1 bt250.2.1 bt250.2.2.1 bt250.2.2.2.1 bt250.2.2.2.2)) else (tipstafflaw09_ValueOwn.j0 k true t226 t227 t228 t231 t234 bt238.1 bt238.2.1 bt238.2.2.1 bt238.2.2.2.1 bt238.2.2.2.2 bt250.1 bt250.2.1 bt250.2.2.1 bt250.2.2.2.1 bt250.2.2.2.2)))) = some r := H
  have A3 := Aside0.mk A30
  clear A30
  replace H := Option.bind_eq_some_iff.mp H
  obtain ⟨⟨t238, t239, t240, t243, t246⟩, A40, H⟩ := H
  replace H : ((value_Own.f t226 t227 t228 t231 t234).bind fun bt250 => (if t225 = true then ((value_Same.f k bt250.1 bt250.2.1 bt250.2.2.1 bt250.2.2.2.1 bt250.2.2.2.2 t226 t227 t228 t231 t234).bind fun t262 => (tipstafflaw09_ValueOwn.j0 k (!t262) t226 t227 t228 t231 t234 t238 t239 t240 t243 t246 bt250.1 bt250.2.1 bt250.2.2.1 bt250.2.2.2.1 bt250.2.2.2.2)) else (tipstafflaw09_ValueOwn.j0 k true t226 t227 t228 t231 t234 t238 t239 t240 t243 t246 bt250.1 bt250.2.1 bt250.2.2.1 bt250.2.2.2.1 bt250.2.2.2.2))) = some r := H
  have A4 := Aside0.mk A40
  clear A40
  replace H := Option.bind_eq_some_iff.mp H
  obtain ⟨⟨t250, t251, t252, t255, t258⟩, A50, H⟩ := H
  replace H : (if t225 = true then ((value_Same.f k t250 t251 t252 t255 t258 t226 t227 t228 t231 t234).bind fun t262 => (tipstafflaw09_ValueOwn.j0 k (!t262) t226 t227 t228 t231 t234 t238 t239 t240 t243 t246 t250 t251 t252 t255 t258)) else (tipstafflaw09_ValueOwn.j0 k true t226 t227 t228 t231 t234 t238 t239 t240 t243 t246 t250 t251 t252 t255 t258)) = some r := H
  have A5 := Aside0.mk A50
  clear A50
  have HC6 := Aside0.mk H
  clear H
  go_enter Try.func9, Try.ntmps9
  go_upto_region 5 with (first | ((with_reducible refine gate_dst (N := 1) rfl ?_); (try (refine gate_guard (by rfl) ?_; dsimp only)); refine box_event ?hg (N := 1) ?hd (cs := #[.int .u8 a0_0, .string a0_1, .slice A0_2 l0_2.length c0_2, .slice A0_3 l0_3.length c0_3, .slice A0_4 l0_4.length c0_4]) (t := 26) ?hr ?_; (case hd => rfl); (case hg => rfl); (case hr => first | (go_simp; done) | (go_simp; rfl)); intro gb224 hg w7 hbox hb; have n0_ := Aside0.mk (below_step (by repeat (first | (with_reducible first | exact HB.out | apply below_alloc | apply pw_below_drewN | apply below_drew1) | exact HB.out)) hb); have n1_ := Aside0.mk (hbox); have n2_ := Aside0.mk ((by rw [hg]; exact (below_size (by repeat (first | (with_reducible first | exact HB.out | apply below_alloc | apply pw_below_drewN | apply below_drew1) | exact HB.out))) : w.heap.size ≤ gb224)); have n3_ := Aside0.mk ((by rw [hg]; exact (below_size (by repeat (first | (with_reducible first | exact HB.out | apply below_alloc | apply pw_below_drewN | apply below_drew1) | exact HB.out))) : w.heap.size ≤ gb224)); clear HB; have HB := n0_; have BK224 := n1_; have GW224 := n2_; have GE224 := n3_; clear n0_ n1_ n2_ n3_; clear hb hbox hg) | ((with_reducible refine gate_callee (f := 39) rfl ?_); refine goesL_ (some 10) rfl rfl Try.func39 (by kernel_rfl) rfl #[] rfl (by (try simp only [List.map_toArray, List.map_cons, List.map_nil]); first | done | rfl | (simp only [List.length_drop, List.length_take]; rfl)) ?_; (with_reducible refine (tipstafflaw09_shown.calls  t225 _ A2.out).mono ?_); rintro e w8 ⟨rfl, hb⟩; refine ⟨_, rfl, ?_⟩; have n0_ := Aside0.mk (blk_below (g := gb224) (o := .cells #[.int .u8 a0_0, .string a0_1, .slice A0_2 l0_2.length c0_2, .slice A0_3 l0_3.length c0_3, .slice A0_4 l0_4.length c0_4] 26 (0, 0)) (by (with_reducible repeat (first | refine blk_drewN ?_ _ | refine blk_drew ?_ | refine blk_alloc ?_ _)); exact BK224.out) hb); have n1_ := Aside0.mk (below_step (by repeat (first | (with_reducible first | exact HB.out | apply below_alloc | apply pw_below_drewN | apply below_drew1 | refine below_set ?_ GE224.out) | exact HB.out)) hb); clear BK224; clear HB; have BK224 := n0_; have HB := n1_; clear n0_ n1_; (try clear hb); (try clear hb2); (try clear hk); (try clear hi); have hcz9_0 : w8.cell? ⟨gb224, 0, none⟩ = some (.int .u8 a0_0) := (blk_cell BK224.out 0).trans rfl; have hcz9_1 : w8.cell? ⟨gb224, 1, none⟩ = some (.string a0_1) := (blk_cell BK224.out 1).trans rfl; have hcz9_2 : w8.cell? ⟨gb224, 2, none⟩ = some (.slice A0_2 l0_2.length c0_2) := (blk_cell BK224.out 2).trans rfl; have hcz9_3 : w8.cell? ⟨gb224, 3, none⟩ = some (.slice A0_3 l0_3.length c0_3) := (blk_cell BK224.out 3).trans rfl; have hcz9_4 : w8.cell? ⟨gb224, 4, none⟩ = some (.slice A0_4 l0_4.length c0_4) := (blk_cell BK224.out 4).trans rfl; have hfz9_0 := blk_frozen BK224.out 0; have hfz9_1 := blk_frozen BK224.out 1; have hfz9_2 := blk_frozen BK224.out 2; have hfz9_3 := blk_frozen BK224.out 3; have hfz9_4 := blk_frozen BK224.out 4) | ((with_reducible refine gate_callee (f := 40) rfl ?_); refine goesL_ (some 12) rfl rfl Try.func40 (by kernel_rfl) rfl #[.agg #[.int .u8 a0_0, .string a0_1, .slice A0_2 l0_2.length c0_2, .slice A0_3 l0_3.length c0_3, .slice A0_4 l0_4.length c0_4]] rfl (by (try simp only [List.map_toArray, List.map_cons, List.map_nil]); first | done | rfl | (simp only [List.length_drop, List.length_take]; rfl)) ?_; (with_reducible refine (tipstaffref09_Small.calls a0_0 a0_1 _ _ l0_2 _ _ l0_3 _ _ l0_4 t226 t227 t228 t231 t234 _ ?side1 ?side2 ?side3 ?side4 ?side5 ?side6 A3.out).mono ?_); (case side1 => repeat (first | exact (Kd.C_below HR0_2.out HB.out) | (with_reducible refine Kd.C_alloc ?_ _) | (with_reducible refine Kd.C_drewN ?_ _) | (with_reducible refine Kd.C_drew ?_))); (case side2 => exact HC0_2.out); (case side3 => repeat (first | exact (Kd.C_below HR0_3.out HB.out) | (with_reducible refine Kd.C_alloc ?_ _) | (with_reducible refine Kd.C_drewN ?_ _) | (with_reducible refine Kd.C_drew ?_))); (case side4 => exact HC0_3.out); (case side5 => repeat (first | exact (Kd.C_below HR0_4.out HB.out) | (with_reducible refine Kd.C_alloc ?_ _) | (with_reducible refine Kd.C_drewN ?_ _) | (with_reducible refine Kd.C_drew ?_))); (case side6 => exact HC0_4.out); rintro e w10 ⟨v229, v232, v235, rfl, ho0, ho1, ho2, hb⟩; refine ⟨_, rfl, ?_⟩; have n0_ := Aside0.mk (Kd.R_lower ho0 (below_size (by repeat (first | (with_reducible first | exact HB.out | apply below_alloc | apply pw_below_drewN | apply below_drew1 | refine below_set ?_ GE224.out) | exact HB.out)))); have n1_ := Aside0.mk (Kd.R_lower ho1 (below_size (by repeat (first | (with_reducible first | exact HB.out | apply below_alloc | apply pw_below_drewN | apply below_drew1 | refine below_set ?_ GE224.out) | exact HB.out)))); have n2_ := Aside0.mk (Kd.R_lower ho2 (below_size (by repeat (first | (with_reducible first | exact HB.out | apply below_alloc | apply pw_below_drewN | apply below_drew1 | refine below_set ?_ GE224.out) | exact HB.out)))); have n3_ := Aside0.mk (blk_below (g := gb224) (o := .cells #[.int .u8 a0_0, .string a0_1, .slice A0_2 l0_2.length c0_2, .slice A0_3 l0_3.length c0_3, .slice A0_4 l0_4.length c0_4] 26 (0, 0)) (by (with_reducible repeat (first | refine blk_drewN ?_ _ | refine blk_drew ?_ | refine blk_alloc ?_ _)); exact BK224.out) hb); have n4_ := Aside0.mk (below_step (by repeat (first | (with_reducible first | exact HB.out | apply below_alloc | apply pw_below_drewN | apply below_drew1 | refine below_set ?_ GE224.out) | exact HB.out)) hb); clear BK224; clear HB; have HO230 := n0_; have HO233 := n1_; have HO236 := n2_; have BK224 := n3_; have HB := n4_; clear n0_ n1_ n2_ n3_ n4_; (try clear hb); (try clear hb2); (try clear hk); (try clear hi); (try clear ho0); (try clear ho1); (try clear ho2)) | ((with_reducible refine gate_dst (N := 4) rfl ?_); (try (refine gate_guard (by rfl) ?_; dsimp only)); refine box_event ?hg (N := 4) ?hd (cs := #[.int .u8 0, .string (⟨#[]⟩ : ByteArray), .slice none 0 0, .slice none 0 0, .slice none 0 0]) (t := 26) ?hr ?_; (case hd => rfl); (case hg => rfl); (case hr => first | (go_simp; done) | (go_simp; rfl)); intro gb237 hg w11 hbox hb; have n0_ := Aside0.mk (Kd.R_below (by (with_reducible repeat (first | apply Kd.R_alloc | apply Kd.R_drewN | apply Kd.R_drew)); exact HO230.out) hb); have n1_ := Aside0.mk (Kd.R_below (by (with_reducible repeat (first | apply Kd.R_alloc | apply Kd.R_drewN | apply Kd.R_drew)); exact HO233.out) hb); have n2_ := Aside0.mk (Kd.R_below (by (with_reducible repeat (first | apply Kd.R_alloc | apply Kd.R_drewN | apply Kd.R_drew)); exact HO236.out) hb); have n3_ := Aside0.mk (blk_below (g := gb224) (o := .cells #[.int .u8 a0_0, .string a0_1, .slice A0_2 l0_2.length c0_2, .slice A0_3 l0_3.length c0_3, .slice A0_4 l0_4.length c0_4] 26 (0, 0)) (by (with_reducible repeat (first | refine blk_drewN ?_ _ | refine blk_drew ?_ | refine blk_alloc ?_ _)); exact BK224.out) hb); have n4_ := Aside0.mk (below_step (by repeat (first | (with_reducible first | exact HB.out | apply below_alloc | apply pw_below_drewN | apply below_drew1 | refine below_set ?_ GE224.out) | exact HB.out)) hb); have n5_ := Aside0.mk (hbox); have n6_ := Aside0.mk ((by rw [hg]; exact (below_size (by repeat (first | (with_reducible first | exact HB.out | apply below_alloc | apply pw_below_drewN | apply below_drew1 | refine below_set ?_ GE224.out) | exact HB.out))) : w.heap.size ≤ gb237)); have n7_ := Aside0.mk ((by rw [hg]; exact (below_size (by repeat (first | (with_reducible first | exact HB.out | apply below_alloc | apply pw_below_drewN | apply below_drew1 | refine below_set ?_ GE224.out) | exact HB.out))) : w.heap.size ≤ gb237)); have n8_ := Aside0.mk ((by rw [hg]; exact Nat.ne_of_lt (blk_lt (g := gb224) (o := .cells #[.int .u8 a0_0, .string a0_1, .slice A0_2 l0_2.length c0_2, .slice A0_3 l0_3.length c0_3, .slice A0_4 l0_4.length c0_4] 26 (0, 0)) (by (with_reducible repeat (first | refine blk_drewN ?_ _ | refine blk_drew ?_ | refine blk_alloc ?_ _)); exact BK224.out)) : gb224 ≠ gb237)); have n9_ := Aside0.mk ((by rw [hg]; exact Nat.ne_of_gt (blk_lt (g := gb224) (o := .cells #[.int .u8 a0_0, .string a0_1, .slice A0_2 l0_2.length c0_2, .slice A0_3 l0_3.length c0_3, .slice A0_4 l0_4.length c0_4] 26 (0, 0)) (by (with_reducible repeat (first | refine blk_drewN ?_ _ | refine blk_drew ?_ | refine blk_alloc ?_ _)); exact BK224.out)) : gb237 ≠ gb224)); clear HO230; clear HO233; clear HO236; clear BK224; clear HB; have HO230 := n0_; have HO233 := n1_; have HO236 := n2_; have BK224 := n3_; have HB := n4_; have BK237 := n5_; have GW237 := n6_; have GE237 := n7_; have NB224_237 := n8_; have NB237_224 := n9_; clear n0_ n1_ n2_ n3_ n4_ n5_ n6_ n7_ n8_ n9_; clear hb hbox hg; have hnb12 := NB237_224.out; have hnc12 := NB224_237.out; have hcz13_0 : w11.cell? ⟨gb237, 0, none⟩ = some (.int .u8 0) := (blk_cell BK237.out 0).trans rfl; have hcz13_1 : w11.cell? ⟨gb237, 1, none⟩ = some (.string (⟨#[]⟩ : ByteArray)) := (blk_cell BK237.out 1).trans rfl; have hcz13_2 : w11.cell? ⟨gb237, 2, none⟩ = some (.slice none 0 0) := (blk_cell BK237.out 2).trans rfl; have hcz13_3 : w11.cell? ⟨gb237, 3, none⟩ = some (.slice none 0 0) := (blk_cell BK237.out 3).trans rfl; have hcz13_4 : w11.cell? ⟨gb237, 4, none⟩ = some (.slice none 0 0) := (blk_cell BK237.out 4).trans rfl; have hfz13_0 := blk_frozen BK237.out 0; have hfz13_1 := blk_frozen BK237.out 1; have hfz13_2 := blk_frozen BK237.out 2; have hfz13_3 := blk_frozen BK237.out 3; have hfz13_4 := blk_frozen BK237.out 4; obtain ⟨Ao14, co14, eo14⟩ := Kd.R_slice HO230.out; subst eo14; obtain ⟨Ao15, co15, eo15⟩ := Kd.R_slice HO233.out; subst eo15; obtain ⟨Ao16, co16, eo16⟩ := Kd.R_slice HO236.out; subst eo16; have hcz17_0 : w11.cell? ⟨gb224, 0, none⟩ = some (.int .u8 a0_0) := (blk_cell BK224.out 0).trans rfl; have hcz17_1 : w11.cell? ⟨gb224, 1, none⟩ = some (.string a0_1) := (blk_cell BK224.out 1).trans rfl; have hcz17_2 : w11.cell? ⟨gb224, 2, none⟩ = some (.slice A0_2 l0_2.length c0_2) := (blk_cell BK224.out 2).trans rfl; have hcz17_3 : w11.cell? ⟨gb224, 3, none⟩ = some (.slice A0_3 l0_3.length c0_3) := (blk_cell BK224.out 3).trans rfl; have hcz17_4 : w11.cell? ⟨gb224, 4, none⟩ = some (.slice A0_4 l0_4.length c0_4) := (blk_cell BK224.out 4).trans rfl; have hfz17_0 := blk_frozen BK224.out 0; have hfz17_1 := blk_frozen BK224.out 1; have hfz17_2 := blk_frozen BK224.out 2; have hfz17_3 := blk_frozen BK224.out 3; have hfz17_4 := blk_frozen BK224.out 4) | ((with_reducible refine gate_callee (f := 40) rfl ?_); refine goesL_ (some 14) rfl rfl Try.func40 (by kernel_rfl) rfl #[.agg #[.int .u8 a0_0, .string a0_1, .slice A0_2 l0_2.length c0_2, .slice A0_3 l0_3.length c0_3, .slice A0_4 l0_4.length c0_4]] rfl (by (try simp only [List.map_toArray, List.map_cons, List.map_nil]); first | done | rfl | (simp only [List.length_drop, List.length_take]; rfl)) ?_; (with_reducible refine (tipstaffref09_Small.calls a0_0 a0_1 _ _ l0_2 _ _ l0_3 _ _ l0_4 t238 t239 t240 t243 t246 _ ?side1 ?side2 ?side3 ?side4 ?side5 ?side6 A4.out).mono ?_); (case side1 => exact Kd.C_below HR0_2.out (by repeat (first | (with_reducible first | exact HB.out | apply below_alloc | apply pw_below_drewN | apply below_drew1 | refine below_set ?_ GE224.out | refine below_set ?_ GE237.out) | exact HB.out))); (case side2 => exact HC0_2.out); (case side3 => exact Kd.C_below HR0_3.out (by repeat (first | (with_reducible first | exact HB.out | apply below_alloc | apply pw_below_drewN | apply below_drew1 | refine below_set ?_ GE224.out | refine below_set ?_ GE237.out) | exact HB.out))); (case side4 => exact HC0_3.out); (case side5 => exact Kd.C_below HR0_4.out (by repeat (first | (with_reducible first | exact HB.out | apply below_alloc | apply pw_below_drewN | apply below_drew1 | refine below_set ?_ GE224.out | refine below_set ?_ GE237.out) | exact HB.out))); (case side6 => exact HC0_4.out); rintro e w18 ⟨v241, v244, v247, rfl, ho0, ho1, ho2, hb⟩; refine ⟨_, rfl, ?_⟩; have n0_ := Aside0.mk (Kd.R_elder' (by (with_reducible repeat (first | apply Kd.R_alloc | apply Kd.R_drewN | apply Kd.R_drew)); exact (Kd.R_mono (Kd.R_far (p := ⟨gb237, 4, none⟩) (Kd.R_far (p := ⟨gb237, 3, none⟩) (Kd.R_far (p := ⟨gb237, 2, none⟩) (Kd.R_far (p := ⟨gb237, 1, none⟩) (Kd.R_far (p := ⟨gb237, 0, none⟩) (Kd.R_types HO230.out BK237.out (by decide)) (fun _ hk => hk.2) (.int .u8 t226)) (fun _ hk => hk.2) (.string t227)) (fun _ hk => hk.2) (.slice Ao14 t228.length co14)) (fun _ hk => hk.2) (.slice Ao15 t231.length co15)) (fun _ hk => hk.2) (.slice Ao16 t234.length co16)) (fun _ h_ => h_.1))) (Kd.R_base ho0) hb); have n1_ := Aside0.mk (Kd.R_elder' (by (with_reducible repeat (first | apply Kd.R_alloc | apply Kd.R_drewN | apply Kd.R_drew)); exact (Kd.R_mono (Kd.R_far (p := ⟨gb237, 4, none⟩) (Kd.R_far (p := ⟨gb237, 3, none⟩) (Kd.R_far (p := ⟨gb237, 2, none⟩) (Kd.R_far (p := ⟨gb237, 1, none⟩) (Kd.R_far (p := ⟨gb237, 0, none⟩) (Kd.R_types HO233.out BK237.out (by decide)) (fun _ hk => hk.2) (.int .u8 t226)) (fun _ hk => hk.2) (.string t227)) (fun _ hk => hk.2) (.slice Ao14 t228.length co14)) (fun _ hk => hk.2) (.slice Ao15 t231.length co15)) (fun _ hk => hk.2) (.slice Ao16 t234.length co16)) (fun _ h_ => h_.1))) (Kd.R_base ho1) hb); have n2_ := Aside0.mk (Kd.R_elder' (by (with_reducible repeat (first | apply Kd.R_alloc | apply Kd.R_drewN | apply Kd.R_drew)); exact (Kd.R_mono (Kd.R_far (p := ⟨gb237, 4, none⟩) (Kd.R_far (p := ⟨gb237, 3, none⟩) (Kd.R_far (p := ⟨gb237, 2, none⟩) (Kd.R_far (p := ⟨gb237, 1, none⟩) (Kd.R_far (p := ⟨gb237, 0, none⟩) (Kd.R_types HO236.out BK237.out (by decide)) (fun _ hk => hk.2) (.int .u8 t226)) (fun _ hk => hk.2) (.string t227)) (fun _ hk => hk.2) (.slice Ao14 t228.length co14)) (fun _ hk => hk.2) (.slice Ao15 t231.length co15)) (fun _ hk => hk.2) (.slice Ao16 t234.length co16)) (fun _ h_ => h_.1))) (Kd.R_base ho2) hb); have n3_ := Aside0.mk (Kd.R_lower (Kd.R_new' ho0 (Kd.R_lt (by (with_reducible repeat (first | apply Kd.R_alloc | apply Kd.R_drewN | apply Kd.R_drew)); exact (Kd.R_mono (Kd.R_far (p := ⟨gb237, 4, none⟩) (Kd.R_far (p := ⟨gb237, 3, none⟩) (Kd.R_far (p := ⟨gb237, 2, none⟩) (Kd.R_far (p := ⟨gb237, 1, none⟩) (Kd.R_far (p := ⟨gb237, 0, none⟩) (Kd.R_types HO230.out BK237.out (by decide)) (fun _ hk => hk.2) (.int .u8 t226)) (fun _ hk => hk.2) (.string t227)) (fun _ hk => hk.2) (.slice Ao14 t228.length co14)) (fun _ hk => hk.2) (.slice Ao15 t231.length co15)) (fun _ hk => hk.2) (.slice Ao16 t234.length co16)) (fun _ h_ => h_.1))))) (below_size (by repeat (first | (with_reducible first | exact HB.out | apply below_alloc | apply pw_below_drewN | apply below_drew1 | refine below_set ?_ GE224.out | refine below_set ?_ GE237.out) | exact HB.out)))); have n4_ := Aside0.mk (Kd.R_lower (Kd.R_new' ho1 (Kd.R_lt (by (with_reducible repeat (first | apply Kd.R_alloc | apply Kd.R_drewN | apply Kd.R_drew)); exact (Kd.R_mono (Kd.R_far (p := ⟨gb237, 4, none⟩) (Kd.R_far (p := ⟨gb237, 3, none⟩) (Kd.R_far (p := ⟨gb237, 2, none⟩) (Kd.R_far (p := ⟨gb237, 1, none⟩) (Kd.R_far (p := ⟨gb237, 0, none⟩) (Kd.R_types HO233.out BK237.out (by decide)) (fun _ hk => hk.2) (.int .u8 t226)) (fun _ hk => hk.2) (.string t227)) (fun _ hk => hk.2) (.slice Ao14 t228.length co14)) (fun _ hk => hk.2) (.slice Ao15 t231.length co15)) (fun _ hk => hk.2) (.slice Ao16 t234.length co16)) (fun _ h_ => h_.1))))) (below_size (by repeat (first | (with_reducible first | exact HB.out | apply below_alloc | apply pw_below_drewN | apply below_drew1 | refine below_set ?_ GE224.out | refine below_set ?_ GE237.out) | exact HB.out)))); have n5_ := Aside0.mk (Kd.R_lower (Kd.R_new' ho2 (Kd.R_lt (by (with_reducible repeat (first | apply Kd.R_alloc | apply Kd.R_drewN | apply Kd.R_drew)); exact (Kd.R_mono (Kd.R_far (p := ⟨gb237, 4, none⟩) (Kd.R_far (p := ⟨gb237, 3, none⟩) (Kd.R_far (p := ⟨gb237, 2, none⟩) (Kd.R_far (p := ⟨gb237, 1, none⟩) (Kd.R_far (p := ⟨gb237, 0, none⟩) (Kd.R_types HO236.out BK237.out (by decide)) (fun _ hk => hk.2) (.int .u8 t226)) (fun _ hk => hk.2) (.string t227)) (fun _ hk => hk.2) (.slice Ao14 t228.length co14)) (fun _ hk => hk.2) (.slice Ao15 t231.length co15)) (fun _ hk => hk.2) (.slice Ao16 t234.length co16)) (fun _ h_ => h_.1))))) (below_size (by repeat (first | (with_reducible first | exact HB.out | apply below_alloc | apply pw_below_drewN | apply below_drew1 | refine below_set ?_ GE224.out | refine below_set ?_ GE237.out) | exact HB.out)))); have n6_ := Aside0.mk (blk_below (g := gb224) (o := .cells #[.int .u8 a0_0, .string a0_1, .slice A0_2 l0_2.length c0_2, .slice A0_3 l0_3.length c0_3, .slice A0_4 l0_4.length c0_4] 26 (0, 0)) (by (with_reducible repeat (first | refine blk_drewN ?_ _ | refine blk_drew ?_ | refine blk_alloc ?_ _)); refine blk_far ?_ NB224_237.out _; (with_reducible repeat (first | refine blk_drewN ?_ _ | refine blk_drew ?_ | refine blk_alloc ?_ _)); refine blk_far ?_ NB224_237.out _; (with_reducible repeat (first | refine blk_drewN ?_ _ | refine blk_drew ?_ | refine blk_alloc ?_ _)); refine blk_far ?_ NB224_237.out _; (with_reducible repeat (first | refine blk_drewN ?_ _ | refine blk_drew ?_ | refine blk_alloc ?_ _)); refine blk_far ?_ NB224_237.out _; (with_reducible repeat (first | refine blk_drewN ?_ _ | refine blk_drew ?_ | refine blk_alloc ?_ _)); refine blk_far ?_ NB224_237.out _; (with_reducible repeat (first | refine blk_drewN ?_ _ | refine blk_drew ?_ | refine blk_alloc ?_ _)); exact BK224.out) hb); have n7_ := Aside0.mk (blk_below (g := gb237) (o := .cells #[.int .u8 t226, .string t227, .slice Ao14 t228.length co14, .slice Ao15 t231.length co15, .slice Ao16 t234.length co16] 26 (0, 0)) (by (with_reducible repeat (first | refine blk_drewN ?_ _ | refine blk_drew ?_ | refine blk_alloc ?_ _)); refine blk_put (cs := #[.int .u8 t226, .string t227, .slice Ao14 t228.length co14, .slice Ao15 t231.length co15, .slice none 0 0]) ?_ 4 _ rfl; (with_reducible repeat (first | refine blk_drewN ?_ _ | refine blk_drew ?_ | refine blk_alloc ?_ _)); refine blk_put (cs := #[.int .u8 t226, .string t227, .slice Ao14 t228.length co14, .slice none 0 0, .slice none 0 0]) ?_ 3 _ rfl; (with_reducible repeat (first | refine blk_drewN ?_ _ | refine blk_drew ?_ | refine blk_alloc ?_ _)); refine blk_put (cs := #[.int .u8 t226, .string t227, .slice none 0 0, .slice none 0 0, .slice none 0 0]) ?_ 2 _ rfl; (with_reducible repeat (first | refine blk_drewN ?_ _ | refine blk_drew ?_ | refine blk_alloc ?_ _)); refine blk_put (cs := #[.int .u8 t226, .string (⟨#[]⟩ : ByteArray), .slice none 0 0, .slice none 0 0, .slice none 0 0]) ?_ 1 _ rfl; (with_reducible repeat (first | refine blk_drewN ?_ _ | refine blk_drew ?_ | refine blk_alloc ?_ _)); refine blk_put (cs := #[.int .u8 0, .string (⟨#[]⟩ : ByteArray), .slice none 0 0, .slice none 0 0, .slice none 0 0]) ?_ 0 _ rfl; (with_reducible repeat (first | refine blk_drewN ?_ _ | refine blk_drew ?_ | refine blk_alloc ?_ _)); exact BK237.out) hb); have n8_ := Aside0.mk (below_step (by repeat (first | (with_reducible first | exact HB.out | apply below_alloc | apply pw_below_drewN | apply below_drew1 | refine below_set ?_ GE224.out | refine below_set ?_ GE237.out) | exact HB.out)) hb); clear HO230; clear HO233; clear HO236; clear BK224; clear BK237; clear HB; have HO230 := n0_; have HO233 := n1_; have HO236 := n2_; have HO242 := n3_; have HO245 := n4_; have HO248 := n5_; have BK224 := n6_; have BK237 := n7_; have HB := n8_; clear n0_ n1_ n2_ n3_ n4_ n5_ n6_ n7_ n8_; (try clear hb); (try clear hb2); (try clear hk); (try clear hi); (try clear ho0); (try clear ho1); (try clear ho2)) | ((with_reducible refine gate_dst (N := 5) rfl ?_); (try (refine gate_guard (by rfl) ?_; dsimp only)); refine box_event ?hg (N := 5) ?hd (cs := #[.int .u8 0, .string (⟨#[]⟩ : ByteArray), .slice none 0 0, .slice none 0 0, .slice none 0 0]) (t := 26) ?hr ?_; (case hd => rfl); (case hg => rfl); (case hr => first | (go_simp; done) | (go_simp; rfl)); intro gb249 hg w19 hbox hb; have n0_ := Aside0.mk (Kd.R_below (by (with_reducible repeat (first | apply Kd.R_alloc | apply Kd.R_drewN | apply Kd.R_drew)); exact HO230.out) hb); have n1_ := Aside0.mk (Kd.R_below (by (with_reducible repeat (first | apply Kd.R_alloc | apply Kd.R_drewN | apply Kd.R_drew)); exact HO233.out) hb); have n2_ := Aside0.mk (Kd.R_below (by (with_reducible repeat (first | apply Kd.R_alloc | apply Kd.R_drewN | apply Kd.R_drew)); exact HO236.out) hb); have n3_ := Aside0.mk (Kd.R_below (by (with_reducible repeat (first | apply Kd.R_alloc | apply Kd.R_drewN | apply Kd.R_drew)); exact HO242.out) hb); have n4_ := Aside0.mk (Kd.R_below (by (with_reducible repeat (first | apply Kd.R_alloc | apply Kd.R_drewN | apply Kd.R_drew)); exact HO245.out) hb); have n5_ := Aside0.mk (Kd.R_below (by (with_reducible repeat (first | apply Kd.R_alloc | apply Kd.R_drewN | apply Kd.R_drew)); exact HO248.out) hb); have n6_ := Aside0.mk (blk_below (g := gb224) (o := .cells #[.int .u8 a0_0, .string a0_1, .slice A0_2 l0_2.length c0_2, .slice A0_3 l0_3.length c0_3, .slice A0_4 l0_4.length c0_4] 26 (0, 0)) (by (with_reducible repeat (first | refine blk_drewN ?_ _ | refine blk_drew ?_ | refine blk_alloc ?_ _)); exact BK224.out) hb); have n7_ := Aside0.mk (blk_below (g := gb237) (o := .cells #[.int .u8 t226, .string t227, .slice Ao14 t228.length co14, .slice Ao15 t231.length co15, .slice Ao16 t234.length co16] 26 (0, 0)) (by (with_reducible repeat (first | refine blk_drewN ?_ _ | refine blk_drew ?_ | refine blk_alloc ?_ _)); exact BK237.out) hb); have n8_ := Aside0.mk (below_step (by repeat (first | (with_reducible first | exact HB.out | apply below_alloc | apply pw_below_drewN | apply below_drew1 | refine below_set ?_ GE224.out | refine below_set ?_ GE237.out) | exact HB.out)) hb); have n9_ := Aside0.mk (hbox); have n10_ := Aside0.mk ((by rw [hg]; exact (below_size (by repeat (first | (with_reducible first | exact HB.out | apply below_alloc | apply pw_below_drewN | apply below_drew1 | refine below_set ?_ GE224.out | refine below_set ?_ GE237.out) | exact HB.out))) : w.heap.size ≤ gb249)); have n11_ := Aside0.mk ((by rw [hg]; exact (below_size (by repeat (first | (with_reducible first | exact HB.out | apply below_alloc | apply pw_below_drewN | apply below_drew1 | refine below_set ?_ GE224.out | refine below_set ?_ GE237.out) | exact HB.out))) : w.heap.size ≤ gb249)); have n12_ := Aside0.mk ((by rw [hg]; exact Nat.ne_of_lt (blk_lt (g := gb224) (o := .cells #[.int .u8 a0_0, .string a0_1, .slice A0_2 l0_2.length c0_2, .slice A0_3 l0_3.length c0_3, .slice A0_4 l0_4.length c0_4] 26 (0, 0)) (by (with_reducible repeat (first | refine blk_drewN ?_ _ | refine blk_drew ?_ | refine blk_alloc ?_ _)); exact BK224.out)) : gb224 ≠ gb249)); have n13_ := Aside0.mk ((by rw [hg]; exact Nat.ne_of_gt (blk_lt (g := gb224) (o := .cells #[.int .u8 a0_0, .string a0_1, .slice A0_2 l0_2.length c0_2, .slice A0_3 l0_3.length c0_3, .slice A0_4 l0_4.length c0_4] 26 (0, 0)) (by (with_reducible repeat (first | refine blk_drewN ?_ _ | refine blk_drew ?_ | refine blk_alloc ?_ _)); exact BK224.out)) : gb249 ≠ gb224)); have n14_ := Aside0.mk ((by rw [hg]; exact Nat.ne_of_lt (blk_lt (g := gb237) (o := .cells #[.int .u8 t226, .string t227, .slice Ao14 t228.length co14, .slice Ao15 t231.length co15, .slice Ao16 t234.length co16] 26 (0, 0)) (by (with_reducible repeat (first | refine blk_drewN ?_ _ | refine blk_drew ?_ | refine blk_alloc ?_ _)); exact BK237.out)) : gb237 ≠ gb249)); have n15_ := Aside0.mk ((by rw [hg]; exact Nat.ne_of_gt (blk_lt (g := gb237) (o := .cells #[.int .u8 t226, .string t227, .slice Ao14 t228.length co14, .slice Ao15 t231.length co15, .slice Ao16 t234.length co16] 26 (0, 0)) (by (with_reducible repeat (first | refine blk_drewN ?_ _ | refine blk_drew ?_ | refine blk_alloc ?_ _)); exact BK237.out)) : gb249 ≠ gb237)); clear HO230; clear HO233; clear HO236; clear HO242; clear HO245; clear HO248; clear BK224; clear BK237; clear HB; have HO230 := n0_; have HO233 := n1_; have HO236 := n2_; have HO242 := n3_; have HO245 := n4_; have HO248 := n5_; have BK224 := n6_; have BK237 := n7_; have HB := n8_; have BK249 := n9_; have GW249 := n10_; have GE249 := n11_; have NB224_249 := n12_; have NB249_224 := n13_; have NB237_249 := n14_; have NB249_237 := n15_; clear n0_ n1_ n2_ n3_ n4_ n5_ n6_ n7_ n8_ n9_ n10_ n11_ n12_ n13_ n14_ n15_; clear hb hbox hg; have hnb20 := NB249_224.out; have hnc20 := NB224_249.out; have hnb21 := NB249_237.out; have hnc21 := NB237_249.out; have hcz22_0 : w19.cell? ⟨gb249, 0, none⟩ = some (.int .u8 0) := (blk_cell BK249.out 0).trans rfl; have hcz22_1 : w19.cell? ⟨gb249, 1, none⟩ = some (.string (⟨#[]⟩ : ByteArray)) := (blk_cell BK249.out 1).trans rfl; have hcz22_2 : w19.cell? ⟨gb249, 2, none⟩ = some (.slice none 0 0) := (blk_cell BK249.out 2).trans rfl; have hcz22_3 : w19.cell? ⟨gb249, 3, none⟩ = some (.slice none 0 0) := (blk_cell BK249.out 3).trans rfl; have hcz22_4 : w19.cell? ⟨gb249, 4, none⟩ = some (.slice none 0 0) := (blk_cell BK249.out 4).trans rfl; have hfz22_0 := blk_frozen BK249.out 0; have hfz22_1 := blk_frozen BK249.out 1; have hfz22_2 := blk_frozen BK249.out 2; have hfz22_3 := blk_frozen BK249.out 3; have hfz22_4 := blk_frozen BK249.out 4; obtain ⟨Ao23, co23, eo23⟩ := Kd.R_slice HO242.out; subst eo23; obtain ⟨Ao24, co24, eo24⟩ := Kd.R_slice HO245.out; subst eo24; obtain ⟨Ao25, co25, eo25⟩ := Kd.R_slice HO248.out; subst eo25; have hcz26_0 : w19.cell? ⟨gb237, 0, none⟩ = some (.int .u8 t226) := (blk_cell BK237.out 0).trans rfl; have hcz26_1 : w19.cell? ⟨gb237, 1, none⟩ = some (.string t227) := (blk_cell BK237.out 1).trans rfl; have hcz26_2 : w19.cell? ⟨gb237, 2, none⟩ = some (.slice Ao14 t228.length co14) := (blk_cell BK237.out 2).trans rfl; have hcz26_3 : w19.cell? ⟨gb237, 3, none⟩ = some (.slice Ao15 t231.length co15) := (blk_cell BK237.out 3).trans rfl; have hcz26_4 : w19.cell? ⟨gb237, 4, none⟩ = some (.slice Ao16 t234.length co16) := (blk_cell BK237.out 4).trans rfl; have hfz26_0 := blk_frozen BK237.out 0; have hfz26_1 := blk_frozen BK237.out 1; have hfz26_2 := blk_frozen BK237.out 2; have hfz26_3 := blk_frozen BK237.out 3; have hfz26_4 := blk_frozen BK237.out 4) | ((with_reducible refine gate_callee (f := 41) rfl ?_); refine goesL_ (some 16) rfl rfl Try.func41 (by kernel_rfl) rfl #[.agg #[.int .u8 t226, .string t227, .slice Ao14 t228.length co14, .slice Ao15 t231.length co15, .slice Ao16 t234.length co16]] rfl (by (try simp only [List.map_toArray, List.map_cons, List.map_nil]); first | done | rfl | (simp only [List.length_drop, List.length_take]; rfl)) ?_; (with_reducible refine (value_Own.calls t226 t227 _ _ t228 _ _ t231 _ _ t234 t250 t251 t252 t255 t258 _ ?side1 ?side2 ?side3 ?side4 ?side5 ?side6 A5.out).mono ?_); (case side1 => refine (Kd.R_reads' (e := 9) (base := w.heap.size) (ok := fun k_ => (True ∧ some k_ ≠ (.slice Ao23 t240.length co23 : Value).ownBlock)) (n := t228.length) (c := co14) ?_).2.2; exact (by (with_reducible repeat (first | apply Kd.R_alloc | apply Kd.R_drewN | apply Kd.R_drew)); exact (Kd.R_mono (Kd.R_far (p := ⟨gb249, 4, none⟩) (Kd.R_far (p := ⟨gb249, 3, none⟩) (Kd.R_far (p := ⟨gb249, 2, none⟩) (Kd.R_far (p := ⟨gb249, 1, none⟩) (Kd.R_far (p := ⟨gb249, 0, none⟩) (Kd.R_types HO230.out BK249.out (by decide)) (fun _ hk => hk.2) (.int .u8 t238)) (fun _ hk => hk.2) (.string t239)) (fun _ hk => hk.2) (.slice Ao23 t240.length co23)) (fun _ hk => hk.2) (.slice Ao24 t243.length co24)) (fun _ hk => hk.2) (.slice Ao25 t246.length co25)) (fun _ h_ => h_.1)))); (case side2 => exact (Kd.R_reads' HO230.out).2.1); (case side3 => refine (Kd.R_reads' (e := 60) (base := w.heap.size) (ok := fun k_ => (True ∧ some k_ ≠ (.slice Ao24 t243.length co24 : Value).ownBlock)) (n := t231.length) (c := co15) ?_).2.2; exact (by (with_reducible repeat (first | apply Kd.R_alloc | apply Kd.R_drewN | apply Kd.R_drew)); exact (Kd.R_mono (Kd.R_far (p := ⟨gb249, 4, none⟩) (Kd.R_far (p := ⟨gb249, 3, none⟩) (Kd.R_far (p := ⟨gb249, 2, none⟩) (Kd.R_far (p := ⟨gb249, 1, none⟩) (Kd.R_far (p := ⟨gb249, 0, none⟩) (Kd.R_types HO233.out BK249.out (by decide)) (fun _ hk => hk.2) (.int .u8 t238)) (fun _ hk => hk.2) (.string t239)) (fun _ hk => hk.2) (.slice Ao23 t240.length co23)) (fun _ hk => hk.2) (.slice Ao24 t243.length co24)) (fun _ hk => hk.2) (.slice Ao25 t246.length co25)) (fun _ h_ => h_.1)))); (case side4 => exact (Kd.R_reads' HO233.out).2.1); (case side5 => refine (Kd.R_reads' (e := 62) (base := w.heap.size) (ok := fun k_ => (True ∧ some k_ ≠ (.slice Ao25 t246.length co25 : Value).ownBlock)) (n := t234.length) (c := co16) ?_).2.2; exact (by (with_reducible repeat (first | apply Kd.R_alloc | apply Kd.R_drewN | apply Kd.R_drew)); exact (Kd.R_mono (Kd.R_far (p := ⟨gb249, 4, none⟩) (Kd.R_far (p := ⟨gb249, 3, none⟩) (Kd.R_far (p := ⟨gb249, 2, none⟩) (Kd.R_far (p := ⟨gb249, 1, none⟩) (Kd.R_far (p := ⟨gb249, 0, none⟩) (Kd.R_types HO236.out BK249.out (by decide)) (fun _ hk => hk.2) (.int .u8 t238)) (fun _ hk => hk.2) (.string t239)) (fun _ hk => hk.2) (.slice Ao23 t240.length co23)) (fun _ hk => hk.2) (.slice Ao24 t243.length co24)) (fun _ hk => hk.2) (.slice Ao25 t246.length co25)) (fun _ h_ => h_.1)))); (case side6 => exact (Kd.R_reads' HO236.out).2.1); rintro e w27 ⟨v253, v256, v259, rfl, ho0, ho1, ho2, hb⟩; refine ⟨_, rfl, ?_⟩; have n0_ := Aside0.mk (Kd.R_elder' (by (with_reducible repeat (first | apply Kd.R_alloc | apply Kd.R_drewN | apply Kd.R_drew)); exact (Kd.R_mono (Kd.R_far (p := ⟨gb249, 4, none⟩) (Kd.R_far (p := ⟨gb249, 3, none⟩) (Kd.R_far (p := ⟨gb249, 2, none⟩) (Kd.R_far (p := ⟨gb249, 1, none⟩) (Kd.R_far (p := ⟨gb249, 0, none⟩) (Kd.R_types HO230.out BK249.out (by decide)) (fun _ hk => hk.2) (.int .u8 t238)) (fun _ hk => hk.2) (.string t239)) (fun _ hk => hk.2) (.slice Ao23 t240.length co23)) (fun _ hk => hk.2) (.slice Ao24 t243.length co24)) (fun _ hk => hk.2) (.slice Ao25 t246.length co25)) (fun _ h_ => h_.1))) (Kd.R_base ho0) hb); have n1_ := Aside0.mk (Kd.R_elder' (by (with_reducible repeat (first | apply Kd.R_alloc | apply Kd.R_drewN | apply Kd.R_drew)); exact (Kd.R_mono (Kd.R_far (p := ⟨gb249, 4, none⟩) (Kd.R_far (p := ⟨gb249, 3, none⟩) (Kd.R_far (p := ⟨gb249, 2, none⟩) (Kd.R_far (p := ⟨gb249, 1, none⟩) (Kd.R_far (p := ⟨gb249, 0, none⟩) (Kd.R_types HO233.out BK249.out (by decide)) (fun _ hk => hk.2) (.int .u8 t238)) (fun _ hk => hk.2) (.string t239)) (fun _ hk => hk.2) (.slice Ao23 t240.length co23)) (fun _ hk => hk.2) (.slice Ao24 t243.length co24)) (fun _ hk => hk.2) (.slice Ao25 t246.length co25)) (fun _ h_ => h_.1))) (Kd.R_base ho1) hb); have n2_ := Aside0.mk (Kd.R_elder' (by (with_reducible repeat (first | apply Kd.R_alloc | apply Kd.R_drewN | apply Kd.R_drew)); exact (Kd.R_mono (Kd.R_far (p := ⟨gb249, 4, none⟩) (Kd.R_far (p := ⟨gb249, 3, none⟩) (Kd.R_far (p := ⟨gb249, 2, none⟩) (Kd.R_far (p := ⟨gb249, 1, none⟩) (Kd.R_far (p := ⟨gb249, 0, none⟩) (Kd.R_types HO236.out BK249.out (by decide)) (fun _ hk => hk.2) (.int .u8 t238)) (fun _ hk => hk.2) (.string t239)) (fun _ hk => hk.2) (.slice Ao23 t240.length co23)) (fun _ hk => hk.2) (.slice Ao24 t243.length co24)) (fun _ hk => hk.2) (.slice Ao25 t246.length co25)) (fun _ h_ => h_.1))) (Kd.R_base ho2) hb); have n3_ := Aside0.mk (Kd.R_elder' (by (with_reducible repeat (first | apply Kd.R_alloc | apply Kd.R_drewN | apply Kd.R_drew)); exact (Kd.R_mono (Kd.R_far (p := ⟨gb249, 4, none⟩) (Kd.R_far (p := ⟨gb249, 3, none⟩) (Kd.R_far (p := ⟨gb249, 2, none⟩) (Kd.R_far (p := ⟨gb249, 1, none⟩) (Kd.R_far (p := ⟨gb249, 0, none⟩) (Kd.R_types HO242.out BK249.out (by decide)) (fun _ hk => hk.2) (.int .u8 t238)) (fun _ hk => hk.2) (.string t239)) (fun _ hk => hk.2) (.slice Ao23 t240.length co23)) (fun _ hk => hk.2) (.slice Ao24 t243.length co24)) (fun _ hk => hk.2) (.slice Ao25 t246.length co25)) (fun _ h_ => h_.1))) (Kd.R_base ho0) hb); have n4_ := Aside0.mk (Kd.R_elder' (by (with_reducible repeat (first | apply Kd.R_alloc | apply Kd.R_drewN | apply Kd.R_drew)); exact (Kd.R_mono (Kd.R_far (p := ⟨gb249, 4, none⟩) (Kd.R_far (p := ⟨gb249, 3, none⟩) (Kd.R_far (p := ⟨gb249, 2, none⟩) (Kd.R_far (p := ⟨gb249, 1, none⟩) (Kd.R_far (p := ⟨gb249, 0, none⟩) (Kd.R_types HO245.out BK249.out (by decide)) (fun _ hk => hk.2) (.int .u8 t238)) (fun _ hk => hk.2) (.string t239)) (fun _ hk => hk.2) (.slice Ao23 t240.length co23)) (fun _ hk => hk.2) (.slice Ao24 t243.length co24)) (fun _ hk => hk.2) (.slice Ao25 t246.length co25)) (fun _ h_ => h_.1))) (Kd.R_base ho1) hb); have n5_ := Aside0.mk (Kd.R_elder' (by (with_reducible repeat (first | apply Kd.R_alloc | apply Kd.R_drewN | apply Kd.R_drew)); exact (Kd.R_mono (Kd.R_far (p := ⟨gb249, 4, none⟩) (Kd.R_far (p := ⟨gb249, 3, none⟩) (Kd.R_far (p := ⟨gb249, 2, none⟩) (Kd.R_far (p := ⟨gb249, 1, none⟩) (Kd.R_far (p := ⟨gb249, 0, none⟩) (Kd.R_types HO248.out BK249.out (by decide)) (fun _ hk => hk.2) (.int .u8 t238)) (fun _ hk => hk.2) (.string t239)) (fun _ hk => hk.2) (.slice Ao23 t240.length co23)) (fun _ hk => hk.2) (.slice Ao24 t243.length co24)) (fun _ hk => hk.2) (.slice Ao25 t246.length co25)) (fun _ h_ => h_.1))) (Kd.R_base ho2) hb); have n6_ := Aside0.mk (Kd.R_lower (Kd.R_new' (Kd.R_new' ho0 (Kd.R_lt (by (with_reducible repeat (first | apply Kd.R_alloc | apply Kd.R_drewN | apply Kd.R_drew)); exact (Kd.R_mono (Kd.R_far (p := ⟨gb249, 4, none⟩) (Kd.R_far (p := ⟨gb249, 3, none⟩) (Kd.R_far (p := ⟨gb249, 2, none⟩) (Kd.R_far (p := ⟨gb249, 1, none⟩) (Kd.R_far (p := ⟨gb249, 0, none⟩) (Kd.R_types HO230.out BK249.out (by decide)) (fun _ hk => hk.2) (.int .u8 t238)) (fun _ hk => hk.2) (.string t239)) (fun _ hk => hk.2) (.slice Ao23 t240.length co23)) (fun _ hk => hk.2) (.slice Ao24 t243.length co24)) (fun _ hk => hk.2) (.slice Ao25 t246.length co25)) (fun _ h_ => h_.1))))) (Kd.R_lt (by (with_reducible repeat (first | apply Kd.R_alloc | apply Kd.R_drewN | apply Kd.R_drew)); exact (Kd.R_mono (Kd.R_far (p := ⟨gb249, 4, none⟩) (Kd.R_far (p := ⟨gb249, 3, none⟩) (Kd.R_far (p := ⟨gb249, 2, none⟩) (Kd.R_far (p := ⟨gb249, 1, none⟩) (Kd.R_far (p := ⟨gb249, 0, none⟩) (Kd.R_types HO242.out BK249.out (by decide)) (fun _ hk => hk.2) (.int .u8 t238)) (fun _ hk => hk.2) (.string t239)) (fun _ hk => hk.2) (.slice Ao23 t240.length co23)) (fun _ hk => hk.2) (.slice Ao24 t243.length co24)) (fun _ hk => hk.2) (.slice Ao25 t246.length co25)) (fun _ h_ => h_.1))))) (below_size (by repeat (first | (with_reducible first | exact HB.out | apply below_alloc | apply pw_below_drewN | apply below_drew1 | refine below_set ?_ GE224.out | refine below_set ?_ GE237.out | refine below_set ?_ GE249.out) | exact HB.out)))); have n7_ := Aside0.mk (Kd.R_lower (Kd.R_new' (Kd.R_new' ho1 (Kd.R_lt (by (with_reducible repeat (first | apply Kd.R_alloc | apply Kd.R_drewN | apply Kd.R_drew)); exact (Kd.R_mono (Kd.R_far (p := ⟨gb249, 4, none⟩) (Kd.R_far (p := ⟨gb249, 3, none⟩) (Kd.R_far (p := ⟨gb249, 2, none⟩) (Kd.R_far (p := ⟨gb249, 1, none⟩) (Kd.R_far (p := ⟨gb249, 0, none⟩) (Kd.R_types HO233.out BK249.out (by decide)) (fun _ hk => hk.2) (.int .u8 t238)) (fun _ hk => hk.2) (.string t239)) (fun _ hk => hk.2) (.slice Ao23 t240.length co23)) (fun _ hk => hk.2) (.slice Ao24 t243.length co24)) (fun _ hk => hk.2) (.slice Ao25 t246.length co25)) (fun _ h_ => h_.1))))) (Kd.R_lt (by (with_reducible repeat (first | apply Kd.R_alloc | apply Kd.R_drewN | apply Kd.R_drew)); exact (Kd.R_mono (Kd.R_far (p := ⟨gb249, 4, none⟩) (Kd.R_far (p := ⟨gb249, 3, none⟩) (Kd.R_far (p := ⟨gb249, 2, none⟩) (Kd.R_far (p := ⟨gb249, 1, none⟩) (Kd.R_far (p := ⟨gb249, 0, none⟩) (Kd.R_types HO245.out BK249.out (by decide)) (fun _ hk => hk.2) (.int .u8 t238)) (fun _ hk => hk.2) (.string t239)) (fun _ hk => hk.2) (.slice Ao23 t240.length co23)) (fun _ hk => hk.2) (.slice Ao24 t243.length co24)) (fun _ hk => hk.2) (.slice Ao25 t246.length co25)) (fun _ h_ => h_.1))))) (below_size (by repeat (first | (with_reducible first | exact HB.out | apply below_alloc | apply pw_below_drewN | apply below_drew1 | refine below_set ?_ GE224.out | refine below_set ?_ GE237.out | refine below_set ?_ GE249.out) | exact HB.out)))); have n8_ := Aside0.mk (Kd.R_lower (Kd.R_new' (Kd.R_new' ho2 (Kd.R_lt (by (with_reducible repeat (first | apply Kd.R_alloc | apply Kd.R_drewN | apply Kd.R_drew)); exact (Kd.R_mono (Kd.R_far (p := ⟨gb249, 4, none⟩) (Kd.R_far (p := ⟨gb249, 3, none⟩) (Kd.R_far (p := ⟨gb249, 2, none⟩) (Kd.R_far (p := ⟨gb249, 1, none⟩) (Kd.R_far (p := ⟨gb249, 0, none⟩) (Kd.R_types HO236.out BK249.out (by decide)) (fun _ hk => hk.2) (.int .u8 t238)) (fun _ hk => hk.2) (.string t239)) (fun _ hk => hk.2) (.slice Ao23 t240.length co23)) (fun _ hk => hk.2) (.slice Ao24 t243.length co24)) (fun _ hk => hk.2) (.slice Ao25 t246.length co25)) (fun _ h_ => h_.1))))) (Kd.R_lt (by (with_reducible repeat (first | apply Kd.R_alloc | apply Kd.R_drewN | apply Kd.R_drew)); exact (Kd.R_mono (Kd.R_far (p := ⟨gb249, 4, none⟩) (Kd.R_far (p := ⟨gb249, 3, none⟩) (Kd.R_far (p := ⟨gb249, 2, none⟩) (Kd.R_far (p := ⟨gb249, 1, none⟩) (Kd.R_far (p := ⟨gb249, 0, none⟩) (Kd.R_types HO248.out BK249.out (by decide)) (fun _ hk => hk.2) (.int .u8 t238)) (fun _ hk => hk.2) (.string t239)) (fun _ hk => hk.2) (.slice Ao23 t240.length co23)) (fun _ hk => hk.2) (.slice Ao24 t243.length co24)) (fun _ hk => hk.2) (.slice Ao25 t246.length co25)) (fun _ h_ => h_.1))))) (below_size (by repeat (first | (with_reducible first | exact HB.out | apply below_alloc | apply pw_below_drewN | apply below_drew1 | refine below_set ?_ GE224.out | refine below_set ?_ GE237.out | refine below_set ?_ GE249.out) | exact HB.out)))); have n9_ := Aside0.mk (blk_below (g := gb224) (o := .cells #[.int .u8 a0_0, .string a0_1, .slice A0_2 l0_2.length c0_2, .slice A0_3 l0_3.length c0_3, .slice A0_4 l0_4.length c0_4] 26 (0, 0)) (by (with_reducible repeat (first | refine blk_drewN ?_ _ | refine blk_drew ?_ | refine blk_alloc ?_ _)); refine blk_far ?_ NB224_249.out _; (with_reducible repeat (first | refine blk_drewN ?_ _ | refine blk_drew ?_ | refine blk_alloc ?_ _)); refine blk_far ?_ NB224_249.out _; (with_reducible repeat (first | refine blk_drewN ?_ _ | refine blk_drew ?_ | refine blk_alloc ?_ _)); refine blk_far ?_ NB224_249.out _; (with_reducible repeat (first | refine blk_drewN ?_ _ | refine blk_drew ?_ | refine blk_alloc ?_ _)); refine blk_far ?_ NB224_249.out _; (with_reducible repeat (first | refine blk_drewN ?_ _ | refine blk_drew ?_ | refine blk_alloc ?_ _)); refine blk_far ?_ NB224_249.out _; (with_reducible repeat (first | refine blk_drewN ?_ _ | refine blk_drew ?_ | refine blk_alloc ?_ _)); exact BK224.out) hb); have n10_ := Aside0.mk (blk_below (g := gb237) (o := .cells #[.int .u8 t226, .string t227, .slice Ao14 t228.length co14, .slice Ao15 t231.length co15, .slice Ao16 t234.length co16] 26 (0, 0)) (by (with_reducible repeat (first | refine blk_drewN ?_ _ | refine blk_drew ?_ | refine blk_alloc ?_ _)); refine blk_far ?_ NB237_249.out _; (with_reducible repeat (first | refine blk_drewN ?_ _ | refine blk_drew ?_ | refine blk_alloc ?_ _)); refine blk_far ?_ NB237_249.out _; (with_reducible repeat (first | refine blk_drewN ?_ _ | refine blk_drew ?_ | refine blk_alloc ?_ _)); refine blk_far ?_ NB237_249.out _; (with_reducible repeat (first | refine blk_drewN ?_ _ | refine blk_drew ?_ | refine blk_alloc ?_ _)); refine blk_far ?_ NB237_249.out _; (with_reducible repeat (first | refine blk_drewN ?_ _ | refine blk_drew ?_ | refine blk_alloc ?_ _)); refine blk_far ?_ NB237_249.out _; (with_reducible repeat (first | refine blk_drewN ?_ _ | refine blk_drew ?_ | refine blk_alloc ?_ _)); exact BK237.out) hb); have n11_ := Aside0.mk (blk_below (g := gb249) (o := .cells #[.int .u8 t238, .string t239, .slice Ao23 t240.length co23, .slice Ao24 t243.length co24, .slice Ao25 t246.length co25] 26 (0, 0)) (by (with_reducible repeat (first | refine blk_drewN ?_ _ | refine blk_drew ?_ | refine blk_alloc ?_ _)); refine blk_put (cs := #[.int .u8 t238, .string t239, .slice Ao23 t240.length co23, .slice Ao24 t243.length co24, .slice none 0 0]) ?_ 4 _ rfl; (with_reducible repeat (first | refine blk_drewN ?_ _ | refine blk_drew ?_ | refine blk_alloc ?_ _)); refine blk_put (cs := #[.int .u8 t238, .string t239, .slice Ao23 t240.length co23, .slice none 0 0, .slice none 0 0]) ?_ 3 _ rfl; (with_reducible repeat (first | refine blk_drewN ?_ _ | refine blk_drew ?_ | refine blk_alloc ?_ _)); refine blk_put (cs := #[.int .u8 t238, .string t239, .slice none 0 0, .slice none 0 0, .slice none 0 0]) ?_ 2 _ rfl; (with_reducible repeat (first | refine blk_drewN ?_ _ | refine blk_drew ?_ | refine blk_alloc ?_ _)); refine blk_put (cs := #[.int .u8 t238, .string (⟨#[]⟩ : ByteArray), .slice none 0 0, .slice none 0 0, .slice none 0 0]) ?_ 1 _ rfl; (with_reducible repeat (first | refine blk_drewN ?_ _ | refine blk_drew ?_ | refine blk_alloc ?_ _)); refine blk_put (cs := #[.int .u8 0, .string (⟨#[]⟩ : ByteArray), .slice none 0 0, .slice none 0 0, .slice none 0 0]) ?_ 0 _ rfl; (with_reducible repeat (first | refine blk_drewN ?_ _ | refine blk_drew ?_ | refine blk_alloc ?_ _)); exact BK249.out) hb); have n12_ := Aside0.mk (below_step (by repeat (first | (with_reducible first | exact HB.out | apply below_alloc | apply pw_below_drewN | apply below_drew1 | refine below_set ?_ GE224.out | refine below_set ?_ GE237.out | refine below_set ?_ GE249.out) | exact HB.out)) hb); clear HO230; clear HO233; clear HO236; clear HO242; clear HO245; clear HO248; clear BK224; clear BK237; clear BK249; clear HB; have HO230 := n0_; have HO233 := n1_; have HO236 := n2_; have HO242 := n3_; have HO245 := n4_; have HO248 := n5_; have HO254 := n6_; have HO257 := n7_; have HO260 := n8_; have BK224 := n9_; have BK237 := n10_; have BK249 := n11_; have HB := n12_; clear n0_ n1_ n2_ n3_ n4_ n5_ n6_ n7_ n8_ n9_ n10_ n11_ n12_; (try clear hb); (try clear hb2); (try clear hk); (try clear hi); (try clear ho0); (try clear ho1); (try clear ho2)) | ((with_reducible refine gate_dst (N := 6) rfl ?_); (try (refine gate_guard (by rfl) ?_; dsimp only)); refine box_event ?hg (N := 6) ?hd (cs := #[.int .u8 0, .string (⟨#[]⟩ : ByteArray), .slice none 0 0, .slice none 0 0, .slice none 0 0]) (t := 26) ?hr ?_; (case hd => rfl); (case hg => rfl); (case hr => first | (go_simp; done) | (go_simp; rfl)); intro gb261 hg w28 hbox hb; have n0_ := Aside0.mk (Kd.R_below (by (with_reducible repeat (first | apply Kd.R_alloc | apply Kd.R_drewN | apply Kd.R_drew)); exact HO230.out) hb); have n1_ := Aside0.mk (Kd.R_below (by (with_reducible repeat (first | apply Kd.R_alloc | apply Kd.R_drewN | apply Kd.R_drew)); exact HO233.out) hb); have n2_ := Aside0.mk (Kd.R_below (by (with_reducible repeat (first | apply Kd.R_alloc | apply Kd.R_drewN | apply Kd.R_drew)); exact HO236.out) hb); have n3_ := Aside0.mk (Kd.R_below (by (with_reducible repeat (first | apply Kd.R_alloc | apply Kd.R_drewN | apply Kd.R_drew)); exact HO242.out) hb); have n4_ := Aside0.mk (Kd.R_below (by (with_reducible repeat (first | apply Kd.R_alloc | apply Kd.R_drewN | apply Kd.R_drew)); exact HO245.out) hb); have n5_ := Aside0.mk (Kd.R_below (by (with_reducible repeat (first | apply Kd.R_alloc | apply Kd.R_drewN | apply Kd.R_drew)); exact HO248.out) hb); have n6_ := Aside0.mk (Kd.R_below (by (with_reducible repeat (first | apply Kd.R_alloc | apply Kd.R_drewN | apply Kd.R_drew)); exact HO254.out) hb); have n7_ := Aside0.mk (Kd.R_below (by (with_reducible repeat (first | apply Kd.R_alloc | apply Kd.R_drewN | apply Kd.R_drew)); exact HO257.out) hb); have n8_ := Aside0.mk (Kd.R_below (by (with_reducible repeat (first | apply Kd.R_alloc | apply Kd.R_drewN | apply Kd.R_drew)); exact HO260.out) hb); have n9_ := Aside0.mk (blk_below (g := gb224) (o := .cells #[.int .u8 a0_0, .string a0_1, .slice A0_2 l0_2.length c0_2, .slice A0_3 l0_3.length c0_3, .slice A0_4 l0_4.length c0_4] 26 (0, 0)) (by (with_reducible repeat (first | refine blk_drewN ?_ _ | refine blk_drew ?_ | refine blk_alloc ?_ _)); exact BK224.out) hb); have n10_ := Aside0.mk (blk_below (g := gb237) (o := .cells #[.int .u8 t226, .string t227, .slice Ao14 t228.length co14, .slice Ao15 t231.length co15, .slice Ao16 t234.length co16] 26 (0, 0)) (by (with_reducible repeat (first | refine blk_drewN ?_ _ | refine blk_drew ?_ | refine blk_alloc ?_ _)); exact BK237.out) hb); have n11_ := Aside0.mk (blk_below (g := gb249) (o := .cells #[.int .u8 t238, .string t239, .slice Ao23 t240.length co23, .slice Ao24 t243.length co24, .slice Ao25 t246.length co25] 26 (0, 0)) (by (with_reducible repeat (first | refine blk_drewN ?_ _ | refine blk_drew ?_ | refine blk_alloc ?_ _)); exact BK249.out) hb); have n12_ := Aside0.mk (below_step (by repeat (first | (with_reducible first | exact HB.out | apply below_alloc | apply pw_below_drewN | apply below_drew1 | refine below_set ?_ GE224.out | refine below_set ?_ GE237.out | refine below_set ?_ GE249.out) | exact HB.out)) hb); have n13_ := Aside0.mk (hbox); have n14_ := Aside0.mk ((by rw [hg]; exact (below_size (by repeat (first | (with_reducible first | exact HB.out | apply below_alloc | apply pw_below_drewN | apply below_drew1 | refine below_set ?_ GE224.out | refine below_set ?_ GE237.out | refine below_set ?_ GE249.out) | exact HB.out))) : w.heap.size ≤ gb261)); have n15_ := Aside0.mk ((by rw [hg]; exact (below_size (by repeat (first | (with_reducible first | exact HB.out | apply below_alloc | apply pw_below_drewN | apply below_drew1 | refine below_set ?_ GE224.out | refine below_set ?_ GE237.out | refine below_set ?_ GE249.out) | exact HB.out))) : w.heap.size ≤ gb261)); have n16_ := Aside0.mk ((by rw [hg]; exact Nat.ne_of_lt (blk_lt (g := gb224) (o := .cells #[.int .u8 a0_0, .string a0_1, .slice A0_2 l0_2.length c0_2, .slice A0_3 l0_3.length c0_3, .slice A0_4 l0_4.length c0_4] 26 (0, 0)) (by (with_reducible repeat (first | refine blk_drewN ?_ _ | refine blk_drew ?_ | refine blk_alloc ?_ _)); exact BK224.out)) : gb224 ≠ gb261)); have n17_ := Aside0.mk ((by rw [hg]; exact Nat.ne_of_gt (blk_lt (g := gb224) (o := .cells #[.int .u8 a0_0, .string a0_1, .slice A0_2 l0_2.length c0_2, .slice A0_3 l0_3.length c0_3, .slice A0_4 l0_4.length c0_4] 26 (0, 0)) (by (with_reducible repeat (first | refine blk_drewN ?_ _ | refine blk_drew ?_ | refine blk_alloc ?_ _)); exact BK224.out)) : gb261 ≠ gb224)); have n18_ := Aside0.mk ((by rw [hg]; exact Nat.ne_of_lt (blk_lt (g := gb237) (o := .cells #[.int .u8 t226, .string t227, .slice Ao14 t228.length co14, .slice Ao15 t231.length co15, .slice Ao16 t234.length co16] 26 (0, 0)) (by (with_reducible repeat (first | refine blk_drewN ?_ _ | refine blk_drew ?_ | refine blk_alloc ?_ _)); exact BK237.out)) : gb237 ≠ gb261)); have n19_ := Aside0.mk ((by rw [hg]; exact Nat.ne_of_gt (blk_lt (g := gb237) (o := .cells #[.int .u8 t226, .string t227, .slice Ao14 t228.length co14, .slice Ao15 t231.length co15, .slice Ao16 t234.length co16] 26 (0, 0)) (by (with_reducible repeat (first | refine blk_drewN ?_ _ | refine blk_drew ?_ | refine blk_alloc ?_ _)); exact BK237.out)) : gb261 ≠ gb237)); have n20_ := Aside0.mk ((by rw [hg]; exact Nat.ne_of_lt (blk_lt (g := gb249) (o := .cells #[.int .u8 t238, .string t239, .slice Ao23 t240.length co23, .slice Ao24 t243.length co24, .slice Ao25 t246.length co25] 26 (0, 0)) (by (with_reducible repeat (first | refine blk_drewN ?_ _ | refine blk_drew ?_ | refine blk_alloc ?_ _)); exact BK249.out)) : gb249 ≠ gb261)); have n21_ := Aside0.mk ((by rw [hg]; exact Nat.ne_of_gt (blk_lt (g := gb249) (o := .cells #[.int .u8 t238, .string t239, .slice Ao23 t240.length co23, .slice Ao24 t243.length co24, .slice Ao25 t246.length co25] 26 (0, 0)) (by (with_reducible repeat (first | refine blk_drewN ?_ _ | refine blk_drew ?_ | refine blk_alloc ?_ _)); exact BK249.out)) : gb261 ≠ gb249)); clear HO230; clear HO233; clear HO236; clear HO242; clear HO245; clear HO248; clear HO254; clear HO257; clear HO260; clear BK224; clear BK237; clear BK249; clear HB; have HO230 := n0_; have HO233 := n1_; have HO236 := n2_; have HO242 := n3_; have HO245 := n4_; have HO248 := n5_; have HO254 := n6_; have HO257 := n7_; have HO260 := n8_; have BK224 := n9_; have BK237 := n10_; have BK249 := n11_; have HB := n12_; have BK261 := n13_; have GW261 := n14_; have GE261 := n15_; have NB224_261 := n16_; have NB261_224 := n17_; have NB237_261 := n18_; have NB261_237 := n19_; have NB249_261 := n20_; have NB261_249 := n21_; clear n0_ n1_ n2_ n3_ n4_ n5_ n6_ n7_ n8_ n9_ n10_ n11_ n12_ n13_ n14_ n15_ n16_ n17_ n18_ n19_ n20_ n21_; clear hb hbox hg; have hnb29 := NB261_224.out; have hnc29 := NB224_261.out; have hnb30 := NB261_237.out; have hnc30 := NB237_261.out; have hnb31 := NB261_249.out; have hnc31 := NB249_261.out; have hcz32_0 : w28.cell? ⟨gb261, 0, none⟩ = some (.int .u8 0) := (blk_cell BK261.out 0).trans rfl; have hcz32_1 : w28.cell? ⟨gb261, 1, none⟩ = some (.string (⟨#[]⟩ : ByteArray)) := (blk_cell BK261.out 1).trans rfl; have hcz32_2 : w28.cell? ⟨gb261, 2, none⟩ = some (.slice none 0 0) := (blk_cell BK261.out 2).trans rfl; have hcz32_3 : w28.cell? ⟨gb261, 3, none⟩ = some (.slice none 0 0) := (blk_cell BK261.out 3).trans rfl; have hcz32_4 : w28.cell? ⟨gb261, 4, none⟩ = some (.slice none 0 0) := (blk_cell BK261.out 4).trans rfl; have hfz32_0 := blk_frozen BK261.out 0; have hfz32_1 := blk_frozen BK261.out 1; have hfz32_2 := blk_frozen BK261.out 2; have hfz32_3 := blk_frozen BK261.out 3; have hfz32_4 := blk_frozen BK261.out 4; obtain ⟨Ao33, co33, eo33⟩ := Kd.R_slice HO254.out; subst eo33; obtain ⟨Ao34, co34, eo34⟩ := Kd.R_slice HO257.out; subst eo34; obtain ⟨Ao35, co35, eo35⟩ := Kd.R_slice HO260.out; subst eo35))
  (try simp only [Act.put, List.setIfInBounds_toArray, List.set_cons_zero, List.set_cons_succ])
  go_cut [24] (fun v24 wc => ∃ (kq : Nat) (x24_5 : Bool), v24 = .bool x24_5 ∧ Aside0 (tipstafflaw09_ValueOwn.j0 kq x24_5 t226 t227 t228 t231 t234 t238 t239 t240 t243 t246 t250 t251 t252 t255 t258 = some r) ∧ Aside0 (kq ≤ k) ∧ Aside0 (Kd.R Kd.string 9 wc w.heap.size (fun k_ => some k_ ≠ ((.slice Ao23 t240.length co23) : Value).ownBlock ∧ some k_ ≠ ((.slice Ao33 t252.length co33) : Value).ownBlock) (.slice Ao14 t228.length co14) t228) ∧ Aside0 (Kd.R k60 60 wc w.heap.size (fun k_ => some k_ ≠ ((.slice Ao24 t243.length co24) : Value).ownBlock ∧ some k_ ≠ ((.slice Ao34 t255.length co34) : Value).ownBlock) (.slice Ao15 t231.length co15) t231) ∧ Aside0 (Kd.R k62 62 wc w.heap.size (fun k_ => some k_ ≠ ((.slice Ao25 t246.length co25) : Value).ownBlock ∧ some k_ ≠ ((.slice Ao35 t258.length co35) : Value).ownBlock) (.slice Ao16 t234.length co16) t234) ∧ Aside0 (Kd.R Kd.string 9 wc w.heap.size (fun k_ => some k_ ≠ ((.slice Ao14 t228.length co14) : Value).ownBlock ∧ some k_ ≠ ((.slice Ao33 t252.length co33) : Value).ownBlock) (.slice Ao23 t240.length co23) t240) ∧ Aside0 (Kd.R k60 60 wc w.heap.size (fun k_ => some k_ ≠ ((.slice Ao15 t231.length co15) : Value).ownBlock ∧ some k_ ≠ ((.slice Ao34 t255.length co34) : Value).ownBlock) (.slice Ao24 t243.length co24) t243) ∧ Aside0 (Kd.R k62 62 wc w.heap.size (fun k_ => some k_ ≠ ((.slice Ao16 t234.length co16) : Value).ownBlock ∧ some k_ ≠ ((.slice Ao35 t258.length co35) : Value).ownBlock) (.slice Ao25 t246.length co25) t246) ∧ Aside0 (Kd.R Kd.string 9 wc w.heap.size (fun k_ => some k_ ≠ ((.slice Ao14 t228.length co14) : Value).ownBlock ∧ some k_ ≠ ((.slice Ao23 t240.length co23) : Value).ownBlock) (.slice Ao33 t252.length co33) t252) ∧ Aside0 (Kd.R k60 60 wc w.heap.size (fun k_ => some k_ ≠ ((.slice Ao15 t231.length co15) : Value).ownBlock ∧ some k_ ≠ ((.slice Ao24 t243.length co24) : Value).ownBlock) (.slice Ao34 t255.length co34) t255) ∧ Aside0 (Kd.R k62 62 wc w.heap.size (fun k_ => some k_ ≠ ((.slice Ao16 t234.length co16) : Value).ownBlock ∧ some k_ ≠ ((.slice Ao25 t246.length co25) : Value).ownBlock) (.slice Ao35 t258.length co35) t258) ∧ Aside0 (wc.heap[gb224]? = some (.cells #[.int .u8 a0_0, .string a0_1, (.slice A0_2 l0_2.length c0_2), (.slice A0_3 l0_3.length c0_3), (.slice A0_4 l0_4.length c0_4)] 26 (0, 0))) ∧ Aside0 (wc.heap[gb237]? = some (.cells #[.int .u8 t226, .string t227, (.slice Ao14 t228.length co14), (.slice Ao15 t231.length co15), (.slice Ao16 t234.length co16)] 26 (0, 0))) ∧ Aside0 (wc.heap[gb249]? = some (.cells #[.int .u8 t238, .string t239, (.slice Ao23 t240.length co23), (.slice Ao24 t243.length co24), (.slice Ao25 t246.length co25)] 26 (0, 0))) ∧ Aside0 (wc.heap[gb261]? = some (.cells #[.int .u8 t250, .string t251, (.slice Ao33 t252.length co33), (.slice Ao34 t255.length co34), (.slice Ao35 t258.length co35)] 26 (0, 0))) ∧ Aside0 (Below w.heap.size w wc))
  case first =>
    have H := HC6.out
    clear HC6
    by_cases c36 : t225 = true
    · subst c36
      have H1 : ((value_Same.f k t250 t251 t252 t255 t258 t226 t227 t228 t231 t234).bind fun t262 => (tipstafflaw09_ValueOwn.j0 k (!t262) t226 t227 t228 t231 t234 t238 t239 t240 t243 t246 t250 t251 t252 t255 t258)) = some r := by rw [if_pos rfl] at H; exact H
      clear H
      have H := H1
      clear H1
      replace H := Option.bind_eq_some_iff.mp H
      obtain ⟨t262, A370, H⟩ := H
      replace H : (tipstafflaw09_ValueOwn.j0 k (!t262) t226 t227 t228 t231 t234 t238 t239 t240 t243 t246 t250 t251 t252 t255 t258) = some r := H
      have A37 := Aside0.mk A370
      clear A370
      have H' := Aside0.mk H
      clear H
      have hnb38 := NB261_224.out
      have hnc38 := NB224_261.out
      have hnb39 := NB261_237.out
      have hnc39 := NB237_261.out
      have hnb40 := NB261_249.out
      have hnc40 := NB249_261.out
      have hcz41_0 : w28.cell? ⟨gb261, 0, none⟩ = some (.int .u8 0) := (blk_cell BK261.out 0).trans rfl
      have hcz41_1 : w28.cell? ⟨gb261, 1, none⟩ = some (.string (⟨#[]⟩ : ByteArray)) := (blk_cell BK261.out 1).trans rfl
      have hcz41_2 : w28.cell? ⟨gb261, 2, none⟩ = some (.slice none 0 0) := (blk_cell BK261.out 2).trans rfl
      have hcz41_3 : w28.cell? ⟨gb261, 3, none⟩ = some (.slice none 0 0) := (blk_cell BK261.out 3).trans rfl
      have hcz41_4 : w28.cell? ⟨gb261, 4, none⟩ = some (.slice none 0 0) := (blk_cell BK261.out 4).trans rfl
      have hfz41_0 := blk_frozen BK261.out 0
      have hfz41_1 := blk_frozen BK261.out 1
      have hfz41_2 := blk_frozen BK261.out 2
      have hfz41_3 := blk_frozen BK261.out 3
      have hfz41_4 := blk_frozen BK261.out 4
      have hnb42 := NB237_224.out
      have hnc42 := NB224_237.out
      have hnb43 := NB237_249.out
      have hnc43 := NB249_237.out
      have hcz44_0 : w28.cell? ⟨gb237, 0, none⟩ = some (.int .u8 t226) := (blk_cell BK237.out 0).trans rfl
      have hcz44_1 : w28.cell? ⟨gb237, 1, none⟩ = some (.string t227) := (blk_cell BK237.out 1).trans rfl
      have hcz44_2 : w28.cell? ⟨gb237, 2, none⟩ = some (.slice Ao14 t228.length co14) := (blk_cell BK237.out 2).trans rfl
      have hcz44_3 : w28.cell? ⟨gb237, 3, none⟩ = some (.slice Ao15 t231.length co15) := (blk_cell BK237.out 3).trans rfl
      have hcz44_4 : w28.cell? ⟨gb237, 4, none⟩ = some (.slice Ao16 t234.length co16) := (blk_cell BK237.out 4).trans rfl
      have hfz44_0 := blk_frozen BK237.out 0
      have hfz44_1 := blk_frozen BK237.out 1
      have hfz44_2 := blk_frozen BK237.out 2
      have hfz44_3 := blk_frozen BK237.out 3
      have hfz44_4 := blk_frozen BK237.out 4
      go_wp2_with (first | (go_at_call 23; (with_reducible refine (value_Same.calls k t250 t251 _ _ t252 _ _ t255 _ _ t258 t226 t227 _ _ t228 _ _ t231 _ _ t234 t262 _ ?side1 ?side2 ?side3 ?side4 ?side5 ?side6 ?side7 ?side8 ?side9 ?side10 ?side11 ?side12 A37.out).mono ?_); (case side1 => refine (Kd.R_reads' (e := 9) (base := w.heap.size) (ok := fun k_ => ((True ∧ some k_ ≠ (.slice Ao14 t228.length co14 : Value).ownBlock) ∧ some k_ ≠ (.slice Ao23 t240.length co23 : Value).ownBlock)) (n := t252.length) (c := co33) ?_).2.2; exact (by (with_reducible repeat (first | apply Kd.R_alloc | apply Kd.R_drewN | apply Kd.R_drew)); exact (Kd.R_mono (Kd.R_far (p := ⟨gb261, 4, none⟩) (Kd.R_far (p := ⟨gb261, 3, none⟩) (Kd.R_far (p := ⟨gb261, 2, none⟩) (Kd.R_far (p := ⟨gb261, 1, none⟩) (Kd.R_far (p := ⟨gb261, 0, none⟩) (Kd.R_types HO254.out BK261.out (by decide)) (fun _ hk => hk.2) (.int .u8 t250)) (fun _ hk => hk.2) (.string t251)) (fun _ hk => hk.2) (.slice Ao33 t252.length co33)) (fun _ hk => hk.2) (.slice Ao34 t255.length co34)) (fun _ hk => hk.2) (.slice Ao35 t258.length co35)) (fun _ h_ => h_.1)))); (case side2 => exact (Kd.R_reads' HO254.out).2.1); (case side3 => refine (Kd.R_reads' (e := 60) (base := w.heap.size) (ok := fun k_ => ((True ∧ some k_ ≠ (.slice Ao15 t231.length co15 : Value).ownBlock) ∧ some k_ ≠ (.slice Ao24 t243.length co24 : Value).ownBlock)) (n := t255.length) (c := co34) ?_).2.2; exact (by (with_reducible repeat (first | apply Kd.R_alloc | apply Kd.R_drewN | apply Kd.R_drew)); exact (Kd.R_mono (Kd.R_far (p := ⟨gb261, 4, none⟩) (Kd.R_far (p := ⟨gb261, 3, none⟩) (Kd.R_far (p := ⟨gb261, 2, none⟩) (Kd.R_far (p := ⟨gb261, 1, none⟩) (Kd.R_far (p := ⟨gb261, 0, none⟩) (Kd.R_types HO257.out BK261.out (by decide)) (fun _ hk => hk.2) (.int .u8 t250)) (fun _ hk => hk.2) (.string t251)) (fun _ hk => hk.2) (.slice Ao33 t252.length co33)) (fun _ hk => hk.2) (.slice Ao34 t255.length co34)) (fun _ hk => hk.2) (.slice Ao35 t258.length co35)) (fun _ h_ => h_.1)))); (case side4 => exact (Kd.R_reads' HO257.out).2.1); (case side5 => refine (Kd.R_reads' (e := 62) (base := w.heap.size) (ok := fun k_ => ((True ∧ some k_ ≠ (.slice Ao16 t234.length co16 : Value).ownBlock) ∧ some k_ ≠ (.slice Ao25 t246.length co25 : Value).ownBlock)) (n := t258.length) (c := co35) ?_).2.2; exact (by (with_reducible repeat (first | apply Kd.R_alloc | apply Kd.R_drewN | apply Kd.R_drew)); exact (Kd.R_mono (Kd.R_far (p := ⟨gb261, 4, none⟩) (Kd.R_far (p := ⟨gb261, 3, none⟩) (Kd.R_far (p := ⟨gb261, 2, none⟩) (Kd.R_far (p := ⟨gb261, 1, none⟩) (Kd.R_far (p := ⟨gb261, 0, none⟩) (Kd.R_types HO260.out BK261.out (by decide)) (fun _ hk => hk.2) (.int .u8 t250)) (fun _ hk => hk.2) (.string t251)) (fun _ hk => hk.2) (.slice Ao33 t252.length co33)) (fun _ hk => hk.2) (.slice Ao34 t255.length co34)) (fun _ hk => hk.2) (.slice Ao35 t258.length co35)) (fun _ h_ => h_.1)))); (case side6 => exact (Kd.R_reads' HO260.out).2.1); (case side7 => refine (Kd.R_reads' (e := 9) (base := w.heap.size) (ok := fun k_ => ((True ∧ some k_ ≠ (.slice Ao23 t240.length co23 : Value).ownBlock) ∧ some k_ ≠ (.slice Ao33 t252.length co33 : Value).ownBlock)) (n := t228.length) (c := co14) ?_).2.2; exact (by (with_reducible repeat (first | apply Kd.R_alloc | apply Kd.R_drewN | apply Kd.R_drew)); exact (Kd.R_mono (Kd.R_far (p := ⟨gb261, 4, none⟩) (Kd.R_far (p := ⟨gb261, 3, none⟩) (Kd.R_far (p := ⟨gb261, 2, none⟩) (Kd.R_far (p := ⟨gb261, 1, none⟩) (Kd.R_far (p := ⟨gb261, 0, none⟩) (Kd.R_types HO230.out BK261.out (by decide)) (fun _ hk => hk.2) (.int .u8 t250)) (fun _ hk => hk.2) (.string t251)) (fun _ hk => hk.2) (.slice Ao33 t252.length co33)) (fun _ hk => hk.2) (.slice Ao34 t255.length co34)) (fun _ hk => hk.2) (.slice Ao35 t258.length co35)) (fun _ h_ => h_.1)))); (case side8 => exact (Kd.R_reads' HO230.out).2.1); (case side9 => refine (Kd.R_reads' (e := 60) (base := w.heap.size) (ok := fun k_ => ((True ∧ some k_ ≠ (.slice Ao24 t243.length co24 : Value).ownBlock) ∧ some k_ ≠ (.slice Ao34 t255.length co34 : Value).ownBlock)) (n := t231.length) (c := co15) ?_).2.2; exact (by (with_reducible repeat (first | apply Kd.R_alloc | apply Kd.R_drewN | apply Kd.R_drew)); exact (Kd.R_mono (Kd.R_far (p := ⟨gb261, 4, none⟩) (Kd.R_far (p := ⟨gb261, 3, none⟩) (Kd.R_far (p := ⟨gb261, 2, none⟩) (Kd.R_far (p := ⟨gb261, 1, none⟩) (Kd.R_far (p := ⟨gb261, 0, none⟩) (Kd.R_types HO233.out BK261.out (by decide)) (fun _ hk => hk.2) (.int .u8 t250)) (fun _ hk => hk.2) (.string t251)) (fun _ hk => hk.2) (.slice Ao33 t252.length co33)) (fun _ hk => hk.2) (.slice Ao34 t255.length co34)) (fun _ hk => hk.2) (.slice Ao35 t258.length co35)) (fun _ h_ => h_.1)))); (case side10 => exact (Kd.R_reads' HO233.out).2.1); (case side11 => refine (Kd.R_reads' (e := 62) (base := w.heap.size) (ok := fun k_ => ((True ∧ some k_ ≠ (.slice Ao25 t246.length co25 : Value).ownBlock) ∧ some k_ ≠ (.slice Ao35 t258.length co35 : Value).ownBlock)) (n := t234.length) (c := co16) ?_).2.2; exact (by (with_reducible repeat (first | apply Kd.R_alloc | apply Kd.R_drewN | apply Kd.R_drew)); exact (Kd.R_mono (Kd.R_far (p := ⟨gb261, 4, none⟩) (Kd.R_far (p := ⟨gb261, 3, none⟩) (Kd.R_far (p := ⟨gb261, 2, none⟩) (Kd.R_far (p := ⟨gb261, 1, none⟩) (Kd.R_far (p := ⟨gb261, 0, none⟩) (Kd.R_types HO236.out BK261.out (by decide)) (fun _ hk => hk.2) (.int .u8 t250)) (fun _ hk => hk.2) (.string t251)) (fun _ hk => hk.2) (.slice Ao33 t252.length co33)) (fun _ hk => hk.2) (.slice Ao34 t255.length co34)) (fun _ hk => hk.2) (.slice Ao35 t258.length co35)) (fun _ h_ => h_.1)))); (case side12 => exact (Kd.R_reads' HO236.out).2.1); rintro e w45 ⟨rfl, hb⟩; have n0_ := Aside0.mk (Kd.R_below (by (with_reducible repeat (first | apply Kd.R_alloc | apply Kd.R_drewN | apply Kd.R_drew)); exact (Kd.R_mono (Kd.R_far (p := ⟨gb261, 4, none⟩) (Kd.R_far (p := ⟨gb261, 3, none⟩) (Kd.R_far (p := ⟨gb261, 2, none⟩) (Kd.R_far (p := ⟨gb261, 1, none⟩) (Kd.R_far (p := ⟨gb261, 0, none⟩) (Kd.R_types HO230.out BK261.out (by decide)) (fun _ hk => hk.2) (.int .u8 t250)) (fun _ hk => hk.2) (.string t251)) (fun _ hk => hk.2) (.slice Ao33 t252.length co33)) (fun _ hk => hk.2) (.slice Ao34 t255.length co34)) (fun _ hk => hk.2) (.slice Ao35 t258.length co35)) (fun _ h_ => h_.1))) hb); have n1_ := Aside0.mk (Kd.R_below (by (with_reducible repeat (first | apply Kd.R_alloc | apply Kd.R_drewN | apply Kd.R_drew)); exact (Kd.R_mono (Kd.R_far (p := ⟨gb261, 4, none⟩) (Kd.R_far (p := ⟨gb261, 3, none⟩) (Kd.R_far (p := ⟨gb261, 2, none⟩) (Kd.R_far (p := ⟨gb261, 1, none⟩) (Kd.R_far (p := ⟨gb261, 0, none⟩) (Kd.R_types HO233.out BK261.out (by decide)) (fun _ hk => hk.2) (.int .u8 t250)) (fun _ hk => hk.2) (.string t251)) (fun _ hk => hk.2) (.slice Ao33 t252.length co33)) (fun _ hk => hk.2) (.slice Ao34 t255.length co34)) (fun _ hk => hk.2) (.slice Ao35 t258.length co35)) (fun _ h_ => h_.1))) hb); have n2_ := Aside0.mk (Kd.R_below (by (with_reducible repeat (first | apply Kd.R_alloc | apply Kd.R_drewN | apply Kd.R_drew)); exact (Kd.R_mono (Kd.R_far (p := ⟨gb261, 4, none⟩) (Kd.R_far (p := ⟨gb261, 3, none⟩) (Kd.R_far (p := ⟨gb261, 2, none⟩) (Kd.R_far (p := ⟨gb261, 1, none⟩) (Kd.R_far (p := ⟨gb261, 0, none⟩) (Kd.R_types HO236.out BK261.out (by decide)) (fun _ hk => hk.2) (.int .u8 t250)) (fun _ hk => hk.2) (.string t251)) (fun _ hk => hk.2) (.slice Ao33 t252.length co33)) (fun _ hk => hk.2) (.slice Ao34 t255.length co34)) (fun _ hk => hk.2) (.slice Ao35 t258.length co35)) (fun _ h_ => h_.1))) hb); have n3_ := Aside0.mk (Kd.R_below (by (with_reducible repeat (first | apply Kd.R_alloc | apply Kd.R_drewN | apply Kd.R_drew)); exact (Kd.R_mono (Kd.R_far (p := ⟨gb261, 4, none⟩) (Kd.R_far (p := ⟨gb261, 3, none⟩) (Kd.R_far (p := ⟨gb261, 2, none⟩) (Kd.R_far (p := ⟨gb261, 1, none⟩) (Kd.R_far (p := ⟨gb261, 0, none⟩) (Kd.R_types HO242.out BK261.out (by decide)) (fun _ hk => hk.2) (.int .u8 t250)) (fun _ hk => hk.2) (.string t251)) (fun _ hk => hk.2) (.slice Ao33 t252.length co33)) (fun _ hk => hk.2) (.slice Ao34 t255.length co34)) (fun _ hk => hk.2) (.slice Ao35 t258.length co35)) (fun _ h_ => h_.1))) hb); have n4_ := Aside0.mk (Kd.R_below (by (with_reducible repeat (first | apply Kd.R_alloc | apply Kd.R_drewN | apply Kd.R_drew)); exact (Kd.R_mono (Kd.R_far (p := ⟨gb261, 4, none⟩) (Kd.R_far (p := ⟨gb261, 3, none⟩) (Kd.R_far (p := ⟨gb261, 2, none⟩) (Kd.R_far (p := ⟨gb261, 1, none⟩) (Kd.R_far (p := ⟨gb261, 0, none⟩) (Kd.R_types HO245.out BK261.out (by decide)) (fun _ hk => hk.2) (.int .u8 t250)) (fun _ hk => hk.2) (.string t251)) (fun _ hk => hk.2) (.slice Ao33 t252.length co33)) (fun _ hk => hk.2) (.slice Ao34 t255.length co34)) (fun _ hk => hk.2) (.slice Ao35 t258.length co35)) (fun _ h_ => h_.1))) hb); have n5_ := Aside0.mk (Kd.R_below (by (with_reducible repeat (first | apply Kd.R_alloc | apply Kd.R_drewN | apply Kd.R_drew)); exact (Kd.R_mono (Kd.R_far (p := ⟨gb261, 4, none⟩) (Kd.R_far (p := ⟨gb261, 3, none⟩) (Kd.R_far (p := ⟨gb261, 2, none⟩) (Kd.R_far (p := ⟨gb261, 1, none⟩) (Kd.R_far (p := ⟨gb261, 0, none⟩) (Kd.R_types HO248.out BK261.out (by decide)) (fun _ hk => hk.2) (.int .u8 t250)) (fun _ hk => hk.2) (.string t251)) (fun _ hk => hk.2) (.slice Ao33 t252.length co33)) (fun _ hk => hk.2) (.slice Ao34 t255.length co34)) (fun _ hk => hk.2) (.slice Ao35 t258.length co35)) (fun _ h_ => h_.1))) hb); have n6_ := Aside0.mk (Kd.R_below (by (with_reducible repeat (first | apply Kd.R_alloc | apply Kd.R_drewN | apply Kd.R_drew)); exact (Kd.R_mono (Kd.R_far (p := ⟨gb261, 4, none⟩) (Kd.R_far (p := ⟨gb261, 3, none⟩) (Kd.R_far (p := ⟨gb261, 2, none⟩) (Kd.R_far (p := ⟨gb261, 1, none⟩) (Kd.R_far (p := ⟨gb261, 0, none⟩) (Kd.R_types HO254.out BK261.out (by decide)) (fun _ hk => hk.2) (.int .u8 t250)) (fun _ hk => hk.2) (.string t251)) (fun _ hk => hk.2) (.slice Ao33 t252.length co33)) (fun _ hk => hk.2) (.slice Ao34 t255.length co34)) (fun _ hk => hk.2) (.slice Ao35 t258.length co35)) (fun _ h_ => h_.1))) hb); have n7_ := Aside0.mk (Kd.R_below (by (with_reducible repeat (first | apply Kd.R_alloc | apply Kd.R_drewN | apply Kd.R_drew)); exact (Kd.R_mono (Kd.R_far (p := ⟨gb261, 4, none⟩) (Kd.R_far (p := ⟨gb261, 3, none⟩) (Kd.R_far (p := ⟨gb261, 2, none⟩) (Kd.R_far (p := ⟨gb261, 1, none⟩) (Kd.R_far (p := ⟨gb261, 0, none⟩) (Kd.R_types HO257.out BK261.out (by decide)) (fun _ hk => hk.2) (.int .u8 t250)) (fun _ hk => hk.2) (.string t251)) (fun _ hk => hk.2) (.slice Ao33 t252.length co33)) (fun _ hk => hk.2) (.slice Ao34 t255.length co34)) (fun _ hk => hk.2) (.slice Ao35 t258.length co35)) (fun _ h_ => h_.1))) hb); have n8_ := Aside0.mk (Kd.R_below (by (with_reducible repeat (first | apply Kd.R_alloc | apply Kd.R_drewN | apply Kd.R_drew)); exact (Kd.R_mono (Kd.R_far (p := ⟨gb261, 4, none⟩) (Kd.R_far (p := ⟨gb261, 3, none⟩) (Kd.R_far (p := ⟨gb261, 2, none⟩) (Kd.R_far (p := ⟨gb261, 1, none⟩) (Kd.R_far (p := ⟨gb261, 0, none⟩) (Kd.R_types HO260.out BK261.out (by decide)) (fun _ hk => hk.2) (.int .u8 t250)) (fun _ hk => hk.2) (.string t251)) (fun _ hk => hk.2) (.slice Ao33 t252.length co33)) (fun _ hk => hk.2) (.slice Ao34 t255.length co34)) (fun _ hk => hk.2) (.slice Ao35 t258.length co35)) (fun _ h_ => h_.1))) hb); have n9_ := Aside0.mk (blk_below (g := gb224) (o := .cells #[.int .u8 a0_0, .string a0_1, .slice A0_2 l0_2.length c0_2, .slice A0_3 l0_3.length c0_3, .slice A0_4 l0_4.length c0_4] 26 (0, 0)) (by (with_reducible repeat (first | refine blk_drewN ?_ _ | refine blk_drew ?_ | refine blk_alloc ?_ _)); refine blk_far ?_ NB224_261.out _; (with_reducible repeat (first | refine blk_drewN ?_ _ | refine blk_drew ?_ | refine blk_alloc ?_ _)); refine blk_far ?_ NB224_261.out _; (with_reducible repeat (first | refine blk_drewN ?_ _ | refine blk_drew ?_ | refine blk_alloc ?_ _)); refine blk_far ?_ NB224_261.out _; (with_reducible repeat (first | refine blk_drewN ?_ _ | refine blk_drew ?_ | refine blk_alloc ?_ _)); refine blk_far ?_ NB224_261.out _; (with_reducible repeat (first | refine blk_drewN ?_ _ | refine blk_drew ?_ | refine blk_alloc ?_ _)); refine blk_far ?_ NB224_261.out _; (with_reducible repeat (first | refine blk_drewN ?_ _ | refine blk_drew ?_ | refine blk_alloc ?_ _)); exact BK224.out) hb); have n10_ := Aside0.mk (blk_below (g := gb237) (o := .cells #[.int .u8 t226, .string t227, .slice Ao14 t228.length co14, .slice Ao15 t231.length co15, .slice Ao16 t234.length co16] 26 (0, 0)) (by (with_reducible repeat (first | refine blk_drewN ?_ _ | refine blk_drew ?_ | refine blk_alloc ?_ _)); refine blk_far ?_ NB237_261.out _; (with_reducible repeat (first | refine blk_drewN ?_ _ | refine blk_drew ?_ | refine blk_alloc ?_ _)); refine blk_far ?_ NB237_261.out _; (with_reducible repeat (first | refine blk_drewN ?_ _ | refine blk_drew ?_ | refine blk_alloc ?_ _)); refine blk_far ?_ NB237_261.out _; (with_reducible repeat (first | refine blk_drewN ?_ _ | refine blk_drew ?_ | refine blk_alloc ?_ _)); refine blk_far ?_ NB237_261.out _; (with_reducible repeat (first | refine blk_drewN ?_ _ | refine blk_drew ?_ | refine blk_alloc ?_ _)); refine blk_far ?_ NB237_261.out _; (with_reducible repeat (first | refine blk_drewN ?_ _ | refine blk_drew ?_ | refine blk_alloc ?_ _)); exact BK237.out) hb); have n11_ := Aside0.mk (blk_below (g := gb249) (o := .cells #[.int .u8 t238, .string t239, .slice Ao23 t240.length co23, .slice Ao24 t243.length co24, .slice Ao25 t246.length co25] 26 (0, 0)) (by (with_reducible repeat (first | refine blk_drewN ?_ _ | refine blk_drew ?_ | refine blk_alloc ?_ _)); refine blk_far ?_ NB249_261.out _; (with_reducible repeat (first | refine blk_drewN ?_ _ | refine blk_drew ?_ | refine blk_alloc ?_ _)); refine blk_far ?_ NB249_261.out _; (with_reducible repeat (first | refine blk_drewN ?_ _ | refine blk_drew ?_ | refine blk_alloc ?_ _)); refine blk_far ?_ NB249_261.out _; (with_reducible repeat (first | refine blk_drewN ?_ _ | refine blk_drew ?_ | refine blk_alloc ?_ _)); refine blk_far ?_ NB249_261.out _; (with_reducible repeat (first | refine blk_drewN ?_ _ | refine blk_drew ?_ | refine blk_alloc ?_ _)); refine blk_far ?_ NB249_261.out _; (with_reducible repeat (first | refine blk_drewN ?_ _ | refine blk_drew ?_ | refine blk_alloc ?_ _)); exact BK249.out) hb); have n12_ := Aside0.mk (blk_below (g := gb261) (o := .cells #[.int .u8 t250, .string t251, .slice Ao33 t252.length co33, .slice Ao34 t255.length co34, .slice Ao35 t258.length co35] 26 (0, 0)) (by (with_reducible repeat (first | refine blk_drewN ?_ _ | refine blk_drew ?_ | refine blk_alloc ?_ _)); refine blk_put (cs := #[.int .u8 t250, .string t251, .slice Ao33 t252.length co33, .slice Ao34 t255.length co34, .slice none 0 0]) ?_ 4 _ rfl; (with_reducible repeat (first | refine blk_drewN ?_ _ | refine blk_drew ?_ | refine blk_alloc ?_ _)); refine blk_put (cs := #[.int .u8 t250, .string t251, .slice Ao33 t252.length co33, .slice none 0 0, .slice none 0 0]) ?_ 3 _ rfl; (with_reducible repeat (first | refine blk_drewN ?_ _ | refine blk_drew ?_ | refine blk_alloc ?_ _)); refine blk_put (cs := #[.int .u8 t250, .string t251, .slice none 0 0, .slice none 0 0, .slice none 0 0]) ?_ 2 _ rfl; (with_reducible repeat (first | refine blk_drewN ?_ _ | refine blk_drew ?_ | refine blk_alloc ?_ _)); refine blk_put (cs := #[.int .u8 t250, .string (⟨#[]⟩ : ByteArray), .slice none 0 0, .slice none 0 0, .slice none 0 0]) ?_ 1 _ rfl; (with_reducible repeat (first | refine blk_drewN ?_ _ | refine blk_drew ?_ | refine blk_alloc ?_ _)); refine blk_put (cs := #[.int .u8 0, .string (⟨#[]⟩ : ByteArray), .slice none 0 0, .slice none 0 0, .slice none 0 0]) ?_ 0 _ rfl; (with_reducible repeat (first | refine blk_drewN ?_ _ | refine blk_drew ?_ | refine blk_alloc ?_ _)); exact BK261.out) hb); have n13_ := Aside0.mk (below_step (by repeat (first | (with_reducible first | exact HB.out | apply below_alloc | apply pw_below_drewN | apply below_drew1 | refine below_set ?_ GE224.out | refine below_set ?_ GE237.out | refine below_set ?_ GE249.out | refine below_set ?_ GE261.out) | exact HB.out)) hb); clear HO230; clear HO233; clear HO236; clear HO242; clear HO245; clear HO248; clear HO254; clear HO257; clear HO260; clear BK224; clear BK237; clear BK249; clear BK261; clear HB; have HO230 := n0_; have HO233 := n1_; have HO236 := n2_; have HO242 := n3_; have HO245 := n4_; have HO248 := n5_; have HO254 := n6_; have HO257 := n7_; have HO260 := n8_; have BK224 := n9_; have BK237 := n10_; have BK249 := n11_; have BK261 := n12_; have HB := n13_; clear n0_ n1_ n2_ n3_ n4_ n5_ n6_ n7_ n8_ n9_ n10_ n11_ n12_ n13_; (try clear hb); (try clear hb2); (try clear hk); (try clear hi)))
      go_meet
      case rel => exact ⟨_, (!t262), (by first | rfl | (simp; done) | (simp [*]; done)), H', ⟨by first | omega | exact Nat.le_refl _⟩, ⟨by (with_reducible repeat (first | apply Kd.R_alloc | apply Kd.R_drewN | apply Kd.R_drew)); exact Kd.R_mono HO230.out (fun _ hk => ⟨hk.1.2, hk.2⟩)⟩, ⟨by (with_reducible repeat (first | apply Kd.R_alloc | apply Kd.R_drewN | apply Kd.R_drew)); exact Kd.R_mono HO233.out (fun _ hk => ⟨hk.1.2, hk.2⟩)⟩, ⟨by (with_reducible repeat (first | apply Kd.R_alloc | apply Kd.R_drewN | apply Kd.R_drew)); exact Kd.R_mono HO236.out (fun _ hk => ⟨hk.1.2, hk.2⟩)⟩, ⟨by (with_reducible repeat (first | apply Kd.R_alloc | apply Kd.R_drewN | apply Kd.R_drew)); exact Kd.R_mono HO242.out (fun _ hk => ⟨hk.1.2, hk.2⟩)⟩, ⟨by (with_reducible repeat (first | apply Kd.R_alloc | apply Kd.R_drewN | apply Kd.R_drew)); exact Kd.R_mono HO245.out (fun _ hk => ⟨hk.1.2, hk.2⟩)⟩, ⟨by (with_reducible repeat (first | apply Kd.R_alloc | apply Kd.R_drewN | apply Kd.R_drew)); exact Kd.R_mono HO248.out (fun _ hk => ⟨hk.1.2, hk.2⟩)⟩, ⟨by (with_reducible repeat (first | apply Kd.R_alloc | apply Kd.R_drewN | apply Kd.R_drew)); exact Kd.R_mono HO254.out (fun _ hk => ⟨hk.1.2, hk.2⟩)⟩, ⟨by (with_reducible repeat (first | apply Kd.R_alloc | apply Kd.R_drewN | apply Kd.R_drew)); exact Kd.R_mono HO257.out (fun _ hk => ⟨hk.1.2, hk.2⟩)⟩, ⟨by (with_reducible repeat (first | apply Kd.R_alloc | apply Kd.R_drewN | apply Kd.R_drew)); exact Kd.R_mono HO260.out (fun _ hk => ⟨hk.1.2, hk.2⟩)⟩, ⟨by (with_reducible repeat (first | refine blk_drewN ?_ _ | refine blk_drew ?_ | refine blk_alloc ?_ _)); exact BK224.out⟩, ⟨by (with_reducible repeat (first | refine blk_drewN ?_ _ | refine blk_drew ?_ | refine blk_alloc ?_ _)); exact BK237.out⟩, ⟨by (with_reducible repeat (first | refine blk_drewN ?_ _ | refine blk_drew ?_ | refine blk_alloc ?_ _)); exact BK249.out⟩, ⟨by (with_reducible repeat (first | refine blk_drewN ?_ _ | refine blk_drew ?_ | refine blk_alloc ?_ _)); exact BK261.out⟩, ⟨by repeat (first | (with_reducible first | exact HB.out | apply below_alloc | apply pw_below_drewN | apply below_drew1 | refine below_set ?_ GE224.out | refine below_set ?_ GE237.out | refine below_set ?_ GE249.out | refine below_set ?_ GE261.out) | exact HB.out)⟩⟩
    · replace c36 := Bool.eq_false_iff.mpr c36
      subst c36
      have H1 : (tipstafflaw09_ValueOwn.j0 k true t226 t227 t228 t231 t234 t238 t239 t240 t243 t246 t250 t251 t252 t255 t258) = some r := by rw [if_neg (show ¬ (false = true) by decide)] at H; exact H
      clear H
      have H := H1
      clear H1
      have H' := Aside0.mk H
      clear H
      go_wp2
      go_meet
      case rel => exact ⟨_, (true), (by first | rfl | (simp; done) | (simp [*]; done)), H', ⟨by first | omega | exact Nat.le_refl _⟩, ⟨by (with_reducible repeat (first | apply Kd.R_alloc | apply Kd.R_drewN | apply Kd.R_drew)); exact Kd.R_mono (Kd.R_far (p := ⟨gb261, 4, none⟩) (Kd.R_far (p := ⟨gb261, 3, none⟩) (Kd.R_far (p := ⟨gb261, 2, none⟩) (Kd.R_far (p := ⟨gb261, 1, none⟩) (Kd.R_far (p := ⟨gb261, 0, none⟩) (Kd.R_types HO230.out BK261.out (by decide)) (fun _ hk => hk.2) (.int .u8 t250)) (fun _ hk => hk.2) (.string t251)) (fun _ hk => hk.2) (.slice Ao33 t252.length co33)) (fun _ hk => hk.2) (.slice Ao34 t255.length co34)) (fun _ hk => hk.2) (.slice Ao35 t258.length co35)) (fun _ hk => ⟨hk.1.1.2, hk.1.2⟩)⟩, ⟨by (with_reducible repeat (first | apply Kd.R_alloc | apply Kd.R_drewN | apply Kd.R_drew)); exact Kd.R_mono (Kd.R_far (p := ⟨gb261, 4, none⟩) (Kd.R_far (p := ⟨gb261, 3, none⟩) (Kd.R_far (p := ⟨gb261, 2, none⟩) (Kd.R_far (p := ⟨gb261, 1, none⟩) (Kd.R_far (p := ⟨gb261, 0, none⟩) (Kd.R_types HO233.out BK261.out (by decide)) (fun _ hk => hk.2) (.int .u8 t250)) (fun _ hk => hk.2) (.string t251)) (fun _ hk => hk.2) (.slice Ao33 t252.length co33)) (fun _ hk => hk.2) (.slice Ao34 t255.length co34)) (fun _ hk => hk.2) (.slice Ao35 t258.length co35)) (fun _ hk => ⟨hk.1.1.2, hk.1.2⟩)⟩, ⟨by (with_reducible repeat (first | apply Kd.R_alloc | apply Kd.R_drewN | apply Kd.R_drew)); exact Kd.R_mono (Kd.R_far (p := ⟨gb261, 4, none⟩) (Kd.R_far (p := ⟨gb261, 3, none⟩) (Kd.R_far (p := ⟨gb261, 2, none⟩) (Kd.R_far (p := ⟨gb261, 1, none⟩) (Kd.R_far (p := ⟨gb261, 0, none⟩) (Kd.R_types HO236.out BK261.out (by decide)) (fun _ hk => hk.2) (.int .u8 t250)) (fun _ hk => hk.2) (.string t251)) (fun _ hk => hk.2) (.slice Ao33 t252.length co33)) (fun _ hk => hk.2) (.slice Ao34 t255.length co34)) (fun _ hk => hk.2) (.slice Ao35 t258.length co35)) (fun _ hk => ⟨hk.1.1.2, hk.1.2⟩)⟩, ⟨by (with_reducible repeat (first | apply Kd.R_alloc | apply Kd.R_drewN | apply Kd.R_drew)); exact Kd.R_mono (Kd.R_far (p := ⟨gb261, 4, none⟩) (Kd.R_far (p := ⟨gb261, 3, none⟩) (Kd.R_far (p := ⟨gb261, 2, none⟩) (Kd.R_far (p := ⟨gb261, 1, none⟩) (Kd.R_far (p := ⟨gb261, 0, none⟩) (Kd.R_types HO242.out BK261.out (by decide)) (fun _ hk => hk.2) (.int .u8 t250)) (fun _ hk => hk.2) (.string t251)) (fun _ hk => hk.2) (.slice Ao33 t252.length co33)) (fun _ hk => hk.2) (.slice Ao34 t255.length co34)) (fun _ hk => hk.2) (.slice Ao35 t258.length co35)) (fun _ hk => ⟨hk.1.1.2, hk.1.2⟩)⟩, ⟨by (with_reducible repeat (first | apply Kd.R_alloc | apply Kd.R_drewN | apply Kd.R_drew)); exact Kd.R_mono (Kd.R_far (p := ⟨gb261, 4, none⟩) (Kd.R_far (p := ⟨gb261, 3, none⟩) (Kd.R_far (p := ⟨gb261, 2, none⟩) (Kd.R_far (p := ⟨gb261, 1, none⟩) (Kd.R_far (p := ⟨gb261, 0, none⟩) (Kd.R_types HO245.out BK261.out (by decide)) (fun _ hk => hk.2) (.int .u8 t250)) (fun _ hk => hk.2) (.string t251)) (fun _ hk => hk.2) (.slice Ao33 t252.length co33)) (fun _ hk => hk.2) (.slice Ao34 t255.length co34)) (fun _ hk => hk.2) (.slice Ao35 t258.length co35)) (fun _ hk => ⟨hk.1.1.2, hk.1.2⟩)⟩, ⟨by (with_reducible repeat (first | apply Kd.R_alloc | apply Kd.R_drewN | apply Kd.R_drew)); exact Kd.R_mono (Kd.R_far (p := ⟨gb261, 4, none⟩) (Kd.R_far (p := ⟨gb261, 3, none⟩) (Kd.R_far (p := ⟨gb261, 2, none⟩) (Kd.R_far (p := ⟨gb261, 1, none⟩) (Kd.R_far (p := ⟨gb261, 0, none⟩) (Kd.R_types HO248.out BK261.out (by decide)) (fun _ hk => hk.2) (.int .u8 t250)) (fun _ hk => hk.2) (.string t251)) (fun _ hk => hk.2) (.slice Ao33 t252.length co33)) (fun _ hk => hk.2) (.slice Ao34 t255.length co34)) (fun _ hk => hk.2) (.slice Ao35 t258.length co35)) (fun _ hk => ⟨hk.1.1.2, hk.1.2⟩)⟩, ⟨by (with_reducible repeat (first | apply Kd.R_alloc | apply Kd.R_drewN | apply Kd.R_drew)); exact Kd.R_mono (Kd.R_far (p := ⟨gb261, 4, none⟩) (Kd.R_far (p := ⟨gb261, 3, none⟩) (Kd.R_far (p := ⟨gb261, 2, none⟩) (Kd.R_far (p := ⟨gb261, 1, none⟩) (Kd.R_far (p := ⟨gb261, 0, none⟩) (Kd.R_types HO254.out BK261.out (by decide)) (fun _ hk => hk.2) (.int .u8 t250)) (fun _ hk => hk.2) (.string t251)) (fun _ hk => hk.2) (.slice Ao33 t252.length co33)) (fun _ hk => hk.2) (.slice Ao34 t255.length co34)) (fun _ hk => hk.2) (.slice Ao35 t258.length co35)) (fun _ hk => ⟨hk.1.1.2, hk.1.2⟩)⟩, ⟨by (with_reducible repeat (first | apply Kd.R_alloc | apply Kd.R_drewN | apply Kd.R_drew)); exact Kd.R_mono (Kd.R_far (p := ⟨gb261, 4, none⟩) (Kd.R_far (p := ⟨gb261, 3, none⟩) (Kd.R_far (p := ⟨gb261, 2, none⟩) (Kd.R_far (p := ⟨gb261, 1, none⟩) (Kd.R_far (p := ⟨gb261, 0, none⟩) (Kd.R_types HO257.out BK261.out (by decide)) (fun _ hk => hk.2) (.int .u8 t250)) (fun _ hk => hk.2) (.string t251)) (fun _ hk => hk.2) (.slice Ao33 t252.length co33)) (fun _ hk => hk.2) (.slice Ao34 t255.length co34)) (fun _ hk => hk.2) (.slice Ao35 t258.length co35)) (fun _ hk => ⟨hk.1.1.2, hk.1.2⟩)⟩, ⟨by (with_reducible repeat (first | apply Kd.R_alloc | apply Kd.R_drewN | apply Kd.R_drew)); exact Kd.R_mono (Kd.R_far (p := ⟨gb261, 4, none⟩) (Kd.R_far (p := ⟨gb261, 3, none⟩) (Kd.R_far (p := ⟨gb261, 2, none⟩) (Kd.R_far (p := ⟨gb261, 1, none⟩) (Kd.R_far (p := ⟨gb261, 0, none⟩) (Kd.R_types HO260.out BK261.out (by decide)) (fun _ hk => hk.2) (.int .u8 t250)) (fun _ hk => hk.2) (.string t251)) (fun _ hk => hk.2) (.slice Ao33 t252.length co33)) (fun _ hk => hk.2) (.slice Ao34 t255.length co34)) (fun _ hk => hk.2) (.slice Ao35 t258.length co35)) (fun _ hk => ⟨hk.1.1.2, hk.1.2⟩)⟩, ⟨by (with_reducible repeat (first | refine blk_drewN ?_ _ | refine blk_drew ?_ | refine blk_alloc ?_ _)); refine blk_far ?_ NB224_261.out _; (with_reducible repeat (first | refine blk_drewN ?_ _ | refine blk_drew ?_ | refine blk_alloc ?_ _)); refine blk_far ?_ NB224_261.out _; (with_reducible repeat (first | refine blk_drewN ?_ _ | refine blk_drew ?_ | refine blk_alloc ?_ _)); refine blk_far ?_ NB224_261.out _; (with_reducible repeat (first | refine blk_drewN ?_ _ | refine blk_drew ?_ | refine blk_alloc ?_ _)); refine blk_far ?_ NB224_261.out _; (with_reducible repeat (first | refine blk_drewN ?_ _ | refine blk_drew ?_ | refine blk_alloc ?_ _)); refine blk_far ?_ NB224_261.out _; (with_reducible repeat (first | refine blk_drewN ?_ _ | refine blk_drew ?_ | refine blk_alloc ?_ _)); exact BK224.out⟩, ⟨by (with_reducible repeat (first | refine blk_drewN ?_ _ | refine blk_drew ?_ | refine blk_alloc ?_ _)); refine blk_far ?_ NB237_261.out _; (with_reducible repeat (first | refine blk_drewN ?_ _ | refine blk_drew ?_ | refine blk_alloc ?_ _)); refine blk_far ?_ NB237_261.out _; (with_reducible repeat (first | refine blk_drewN ?_ _ | refine blk_drew ?_ | refine blk_alloc ?_ _)); refine blk_far ?_ NB237_261.out _; (with_reducible repeat (first | refine blk_drewN ?_ _ | refine blk_drew ?_ | refine blk_alloc ?_ _)); refine blk_far ?_ NB237_261.out _; (with_reducible repeat (first | refine blk_drewN ?_ _ | refine blk_drew ?_ | refine blk_alloc ?_ _)); refine blk_far ?_ NB237_261.out _; (with_reducible repeat (first | refine blk_drewN ?_ _ | refine blk_drew ?_ | refine blk_alloc ?_ _)); exact BK237.out⟩, ⟨by (with_reducible repeat (first | refine blk_drewN ?_ _ | refine blk_drew ?_ | refine blk_alloc ?_ _)); refine blk_far ?_ NB249_261.out _; (with_reducible repeat (first | refine blk_drewN ?_ _ | refine blk_drew ?_ | refine blk_alloc ?_ _)); refine blk_far ?_ NB249_261.out _; (with_reducible repeat (first | refine blk_drewN ?_ _ | refine blk_drew ?_ | refine blk_alloc ?_ _)); refine blk_far ?_ NB249_261.out _; (with_reducible repeat (first | refine blk_drewN ?_ _ | refine blk_drew ?_ | refine blk_alloc ?_ _)); refine blk_far ?_ NB249_261.out _; (with_reducible repeat (first | refine blk_drewN ?_ _ | refine blk_drew ?_ | refine blk_alloc ?_ _)); refine blk_far ?_ NB249_261.out _; (with_reducible repeat (first | refine blk_drewN ?_ _ | refine blk_drew ?_ | refine blk_alloc ?_ _)); exact BK249.out⟩, ⟨by (with_reducible repeat (first | refine blk_drewN ?_ _ | refine blk_drew ?_ | refine blk_alloc ?_ _)); refine blk_put (cs := #[.int .u8 t250, .string t251, .slice Ao33 t252.length co33, .slice Ao34 t255.length co34, .slice none 0 0]) ?_ 4 _ rfl; (with_reducible repeat (first | refine blk_drewN ?_ _ | refine blk_drew ?_ | refine blk_alloc ?_ _)); refine blk_put (cs := #[.int .u8 t250, .string t251, .slice Ao33 t252.length co33, .slice none 0 0, .slice none 0 0]) ?_ 3 _ rfl; (with_reducible repeat (first | refine blk_drewN ?_ _ | refine blk_drew ?_ | refine blk_alloc ?_ _)); refine blk_put (cs := #[.int .u8 t250, .string t251, .slice none 0 0, .slice none 0 0, .slice none 0 0]) ?_ 2 _ rfl; (with_reducible repeat (first | refine blk_drewN ?_ _ | refine blk_drew ?_ | refine blk_alloc ?_ _)); refine blk_put (cs := #[.int .u8 t250, .string (⟨#[]⟩ : ByteArray), .slice none 0 0, .slice none 0 0, .slice none 0 0]) ?_ 1 _ rfl; (with_reducible repeat (first | refine blk_drewN ?_ _ | refine blk_drew ?_ | refine blk_alloc ?_ _)); refine blk_put (cs := #[.int .u8 0, .string (⟨#[]⟩ : ByteArray), .slice none 0 0, .slice none 0 0, .slice none 0 0]) ?_ 0 _ rfl; (with_reducible repeat (first | refine blk_drewN ?_ _ | refine blk_drew ?_ | refine blk_alloc ?_ _)); exact BK261.out⟩, ⟨by repeat (first | (with_reducible first | exact HB.out | apply below_alloc | apply pw_below_drewN | apply below_drew1 | refine below_set ?_ GE224.out | refine below_set ?_ GE237.out | refine below_set ?_ GE249.out | refine below_set ?_ GE261.out) | exact HB.out)⟩⟩
  case rest =>
    clear HC6
    try clear c1
    try clear c2
    try clear p2
    try clear c3
    try clear c4
    try clear c9
    try clear c12
    try clear c20
    try clear c21
    try clear c29
    try clear c30
    try clear c31
    try clear c36
    try clear c38
    try clear c39
    try clear c40
    try clear c41
    try clear c42
    try clear c43
    try clear hcz13_0
    try clear hcz13_1
    try clear hcz13_2
    try clear hcz13_3
    try clear hcz13_4
    try clear hcz17_0
    try clear hcz17_1
    try clear hcz17_2
    try clear hcz17_3
    try clear hcz17_4
    try clear hcz22_0
    try clear hcz22_1
    try clear hcz22_2
    try clear hcz22_3
    try clear hcz22_4
    try clear hcz26_0
    try clear hcz26_1
    try clear hcz26_2
    try clear hcz26_3
    try clear hcz26_4
    try clear hcz32_0
    try clear hcz32_1
    try clear hcz32_2
    try clear hcz32_3
    try clear hcz32_4
    try clear hcz41_0
    try clear hcz41_1
    try clear hcz41_2
    try clear hcz41_3
    try clear hcz41_4
    try clear hcz44_0
    try clear hcz44_1
    try clear hcz44_2
    try clear hcz44_3
    try clear hcz44_4
    try clear hcz9_0
    try clear hcz9_1
    try clear hcz9_2
    try clear hcz9_3
    try clear hcz9_4
    try clear hfz13_0
    try clear hfz13_1
    try clear hfz13_2
    try clear hfz13_3
    try clear hfz13_4
    try clear hfz17_0
    try clear hfz17_1
    try clear hfz17_2
    try clear hfz17_3
    try clear hfz17_4
    try clear hfz22_0
    try clear hfz22_1
    try clear hfz22_2
    try clear hfz22_3
    try clear hfz22_4
    try clear hfz26_0
    try clear hfz26_1
    try clear hfz26_2
    try clear hfz26_3
    try clear hfz26_4
    try clear hfz32_0
    try clear hfz32_1
    try clear hfz32_2
    try clear hfz32_3
    try clear hfz32_4
    try clear hfz41_0
    try clear hfz41_1
    try clear hfz41_2
    try clear hfz41_3
    try clear hfz41_4
    try clear hfz44_0
    try clear hfz44_1
    try clear hfz44_2
    try clear hfz44_3
    try clear hfz44_4
    try clear hfz9_0
    try clear hfz9_1
    try clear hfz9_2
    try clear hfz9_3
    try clear hfz9_4
    obtain ⟨kq, x24_5, rfl, HA, HJ5, HO_238002, HO_238003, HO_238004, HO_250002, HO_250003, HO_250004, HO_262002, HO_262003, HO_262004, BK224, BK237, BK249, BK261, HB⟩ := hcut
    cases kq with
    | zero => exact absurd HA.out (by simp [tipstafflaw09_ValueOwn.j0])
    | succ kj5 =>
      have H := HA.out
      clear HA
      simp only [tipstafflaw09_ValueOwn.j0] at H
      by_cases c46 : x24_5 = true
      · subst c46
        have H1 : (some false) = some r := by rw [if_pos rfl] at H; exact H
        clear H
        have H := H1
        clear H1
        obtain rfl := Option.some.inj H
        go_wp2
        all_goals go_ret
        all_goals exact ⟨by first | rfl | (simp [errW_none, errW_some] <;> rfl) | (simp [*, errW_none, errW_some] <;> rfl), by repeat (first | (with_reducible first | exact HB.out | apply below_alloc | apply pw_below_drewN | apply below_drew1 | refine below_set ?_ GE224.out | refine below_set ?_ GE237.out | refine below_set ?_ GE249.out | refine below_set ?_ GE261.out) | exact HB.out)⟩
      · replace c46 := Bool.eq_false_iff.mpr c46
        subst c46
        have H1 : (tipstafflaw09_ValueOwn.l0 kj5 0 t226 t227 t228 t231 t234 t238 t239 t240 t243 t246 t250 t251 t252 t255 t258) = some r := by rw [if_neg (show ¬ (false = true) by decide)] at H; exact H
        clear H
        have H := H1
        clear H1
        have H' := Aside0.mk H
        clear H
        go_wp2
        go_loopg [7] kj5 (fun kq v7 w' => ∃ (x7_2 : Int) (x238002_2 : List ByteArray) (x250002_2 : List ByteArray) (x262002_2 : List ByteArray) (u238002 : Value) (u250002 : Value) (u262002 : Value), v7 = .int .i64 x7_2 ∧ Aside0 (tipstafflaw09_ValueOwn.l0 kq x7_2 t226 t227 x238002_2 t231 t234 t238 t239 x250002_2 t243 t246 t250 t251 x262002_2 t255 t258 = some r) ∧ Aside0 (kq ≤ kj5) ∧ Aside0 (Kd.R Kd.string 9 w' w.heap.size (fun k_ => some k_ ≠ (u250002 : Value).ownBlock ∧ some k_ ≠ (u262002 : Value).ownBlock) u238002 x238002_2) ∧ Aside0 (Kd.R k60 60 w' w.heap.size (fun k_ => some k_ ≠ ((.slice Ao24 t243.length co24) : Value).ownBlock ∧ some k_ ≠ ((.slice Ao34 t255.length co34) : Value).ownBlock) (.slice Ao15 t231.length co15) t231) ∧ Aside0 (Kd.R k62 62 w' w.heap.size (fun k_ => some k_ ≠ ((.slice Ao25 t246.length co25) : Value).ownBlock ∧ some k_ ≠ ((.slice Ao35 t258.length co35) : Value).ownBlock) (.slice Ao16 t234.length co16) t234) ∧ Aside0 (Kd.R Kd.string 9 w' w.heap.size (fun k_ => some k_ ≠ (u238002 : Value).ownBlock ∧ some k_ ≠ (u262002 : Value).ownBlock) u250002 x250002_2) ∧ Aside0 (Kd.R k60 60 w' w.heap.size (fun k_ => some k_ ≠ ((.slice Ao15 t231.length co15) : Value).ownBlock ∧ some k_ ≠ ((.slice Ao34 t255.length co34) : Value).ownBlock) (.slice Ao24 t243.length co24) t243) ∧ Aside0 (Kd.R k62 62 w' w.heap.size (fun k_ => some k_ ≠ ((.slice Ao16 t234.length co16) : Value).ownBlock ∧ some k_ ≠ ((.slice Ao35 t258.length co35) : Value).ownBlock) (.slice Ao25 t246.length co25) t246) ∧ Aside0 (Kd.R Kd.string 9 w' w.heap.size (fun k_ => some k_ ≠ (u238002 : Value).ownBlock ∧ some k_ ≠ (u250002 : Value).ownBlock) u262002 x262002_2) ∧ Aside0 (Kd.R k60 60 w' w.heap.size (fun k_ => some k_ ≠ ((.slice Ao15 t231.length co15) : Value).ownBlock ∧ some k_ ≠ ((.slice Ao24 t243.length co24) : Value).ownBlock) (.slice Ao34 t255.length co34) t255) ∧ Aside0 (Kd.R k62 62 w' w.heap.size (fun k_ => some k_ ≠ ((.slice Ao16 t234.length co16) : Value).ownBlock ∧ some k_ ≠ ((.slice Ao25 t246.length co25) : Value).ownBlock) (.slice Ao35 t258.length co35) t258) ∧ Aside0 (w'.heap[gb224]? = some (.cells #[.int .u8 a0_0, .string a0_1, (.slice A0_2 l0_2.length c0_2), (.slice A0_3 l0_3.length c0_3), (.slice A0_4 l0_4.length c0_4)] 26 (0, 0))) ∧ Aside0 (w'.heap[gb237]? = some (.cells #[.int .u8 t226, .string t227, u238002, (.slice Ao15 t231.length co15), (.slice Ao16 t234.length co16)] 26 (0, 0))) ∧ Aside0 (w'.heap[gb249]? = some (.cells #[.int .u8 t238, .string t239, u250002, (.slice Ao24 t243.length co24), (.slice Ao25 t246.length co25)] 26 (0, 0))) ∧ Aside0 (w'.heap[gb261]? = some (.cells #[.int .u8 t250, .string t251, u262002, (.slice Ao34 t255.length co34), (.slice Ao35 t258.length co35)] 26 (0, 0))) ∧ Aside0 (Below w.heap.size w w'))
        case atStart => exact ⟨(0), (t228), (t240), (t252), (.slice Ao14 t228.length co14), (.slice Ao23 t240.length co23), (.slice Ao33 t252.length co33), (by first | rfl | (simp; done) | (simp [*]; done)), H', ⟨Nat.le_refl _⟩, ⟨by (with_reducible repeat (first | apply Kd.R_alloc | apply Kd.R_drewN | apply Kd.R_drew)); exact HO_238002.out⟩, ⟨by (with_reducible repeat (first | apply Kd.R_alloc | apply Kd.R_drewN | apply Kd.R_drew)); exact HO_238003.out⟩, ⟨by (with_reducible repeat (first | apply Kd.R_alloc | apply Kd.R_drewN | apply Kd.R_drew)); exact HO_238004.out⟩, ⟨by (with_reducible repeat (first | apply Kd.R_alloc | apply Kd.R_drewN | apply Kd.R_drew)); exact HO_250002.out⟩, ⟨by (with_reducible repeat (first | apply Kd.R_alloc | apply Kd.R_drewN | apply Kd.R_drew)); exact HO_250003.out⟩, ⟨by (with_reducible repeat (first | apply Kd.R_alloc | apply Kd.R_drewN | apply Kd.R_drew)); exact HO_250004.out⟩, ⟨by (with_reducible repeat (first | apply Kd.R_alloc | apply Kd.R_drewN | apply Kd.R_drew)); exact HO_262002.out⟩, ⟨by (with_reducible repeat (first | apply Kd.R_alloc | apply Kd.R_drewN | apply Kd.R_drew)); exact HO_262003.out⟩, ⟨by (with_reducible repeat (first | apply Kd.R_alloc | apply Kd.R_drewN | apply Kd.R_drew)); exact HO_262004.out⟩, ⟨by (with_reducible repeat (first | refine blk_drewN ?_ _ | refine blk_drew ?_ | refine blk_alloc ?_ _)); exact BK224.out⟩, ⟨by (with_reducible repeat (first | refine blk_drewN ?_ _ | refine blk_drew ?_ | refine blk_alloc ?_ _)); exact BK237.out⟩, ⟨by (with_reducible repeat (first | refine blk_drewN ?_ _ | refine blk_drew ?_ | refine blk_alloc ?_ _)); exact BK249.out⟩, ⟨by (with_reducible repeat (first | refine blk_drewN ?_ _ | refine blk_drew ?_ | refine blk_alloc ?_ _)); exact BK261.out⟩, ⟨by repeat (first | (with_reducible first | exact HB.out | apply below_alloc | apply pw_below_drewN | apply below_drew1 | refine below_set ?_ GE224.out | refine below_set ?_ GE237.out | refine below_set ?_ GE249.out | refine below_set ?_ GE261.out) | exact HB.out)⟩⟩
        case round =>
          clear H'
          try clear c1
          try clear c2
          try clear p2
          try clear c3
          try clear c4
          try clear c9
          try clear c12
          try clear c20
          try clear c21
          try clear c29
          try clear c30
          try clear c31
          try clear c36
          try clear c38
          try clear c39
          try clear c40
          try clear c41
          try clear c42
          try clear c43
          try clear c46
          try clear hcz13_0
          try clear hcz13_1
          try clear hcz13_2
          try clear hcz13_3
          try clear hcz13_4
          try clear hcz17_0
          try clear hcz17_1
          try clear hcz17_2
          try clear hcz17_3
          try clear hcz17_4
          try clear hcz22_0
          try clear hcz22_1
          try clear hcz22_2
          try clear hcz22_3
          try clear hcz22_4
          try clear hcz26_0
          try clear hcz26_1
          try clear hcz26_2
          try clear hcz26_3
          try clear hcz26_4
          try clear hcz32_0
          try clear hcz32_1
          try clear hcz32_2
          try clear hcz32_3
          try clear hcz32_4
          try clear hcz41_0
          try clear hcz41_1
          try clear hcz41_2
          try clear hcz41_3
          try clear hcz41_4
          try clear hcz44_0
          try clear hcz44_1
          try clear hcz44_2
          try clear hcz44_3
          try clear hcz44_4
          try clear hcz9_0
          try clear hcz9_1
          try clear hcz9_2
          try clear hcz9_3
          try clear hcz9_4
          try clear hfz13_0
          try clear hfz13_1
          try clear hfz13_2
          try clear hfz13_3
          try clear hfz13_4
          try clear hfz17_0
          try clear hfz17_1
          try clear hfz17_2
          try clear hfz17_3
          try clear hfz17_4
          try clear hfz22_0
          try clear hfz22_1
          try clear hfz22_2
          try clear hfz22_3
          try clear hfz22_4
          try clear hfz26_0
          try clear hfz26_1
          try clear hfz26_2
          try clear hfz26_3
          try clear hfz26_4
          try clear hfz32_0
          try clear hfz32_1
          try clear hfz32_2
          try clear hfz32_3
          try clear hfz32_4
          try clear hfz41_0
          try clear hfz41_1
          try clear hfz41_2
          try clear hfz41_3
          try clear hfz41_4
          try clear hfz44_0
          try clear hfz44_1
          try clear hfz44_2
          try clear hfz44_3
          try clear hfz44_4
          try clear hfz9_0
          try clear hfz9_1
          try clear hfz9_2
          try clear hfz9_3
          try clear hfz9_4
          try clear p2
          obtain ⟨x7_2, x238002_2, x250002_2, x262002_2, u238002, u250002, u262002, rfl, HA, HK2, HO_238002, HO_238003, HO_238004, HO_250002, HO_250003, HO_250004, HO_262002, HO_262003, HO_262004, BK224, BK237, BK249, BK261, HB⟩ := hrel
          cases gk with
          | zero => exact absurd HA.out (by simp [tipstafflaw09_ValueOwn.l0])
          | succ k2 =>
            have H := HA.out
            clear HA
            simp only [tipstafflaw09_ValueOwn.l0] at H
            by_cases c47 : x7_2 < (x262002_2.length : Int)
            · rw [if_pos c47] at H
              have c47b0 : decide (x7_2 < (x262002_2.length : Int)) = true := decide_eq_true c47
              clear c47
              by_cases c48 : 0 ≤ x7_2
              · rw [if_pos c48] at H
                have c48b0 : decide (0 ≤ x7_2) = true := decide_eq_true c48
                clear c48
                by_cases c49 : (rdOf ByteArray.empty x262002_2 x7_2).size + 1 ≤ 9223372036854775807
                · rw [if_pos c49] at H
                  have c49b0 := eq_true c49
                  have c49b1 : decide ((rdOf ByteArray.empty x262002_2 x7_2).size + 1 ≤ 9223372036854775807) = true := decide_eq_true c49
                  try have c49b2 : (9223372036854775807 < (rdOf ByteArray.empty x262002_2 x7_2).size + 1) = False := eq_false (Nat.not_lt.2 c49)
                  obtain ⟨y264, hy264⟩ : ∃ y_ : List ByteArray, y_ = (x262002_2.set (x7_2 : Int).toNat ((rdOf ByteArray.empty x262002_2 x7_2) ++ (⟨#[122]⟩ : ByteArray))) := ⟨_, rfl⟩
                  replace H : (tipstafflaw09_ValueOwn.l0 k2 (wrap64 (x7_2 + 1)) t226 t227 x238002_2 t231 t234 t238 t239 x250002_2 t243 t246 t250 t251 y264 t255 t258) = some r := by first | (rw [hy264]; with_reducible exact H) | (have H2_ := (Option.bind_some _ _).symm.trans H; rw [hy264]; with_reducible exact H2_) | (have H2_ := (Option.bind_some _ _).symm.trans H; with_reducible exact H2_) | with_reducible exact H | (rw [hy264]; exact H) | exact H
                  have Ny264 := Aside0.mk hy264
                  clear hy264
                  have H' := Aside0.mk H
                  clear H
                  have hnb51 := NB261_224.out
                  have hnc51 := NB224_261.out
                  have hnb52 := NB261_237.out
                  have hnc52 := NB237_261.out
                  have hnb53 := NB261_249.out
                  have hnc53 := NB249_261.out
                  have hcz54_0 : wr.cell? ⟨gb261, 0, none⟩ = some (.int .u8 t250) := (blk_cell BK261.out 0).trans rfl
                  have hcz54_1 : wr.cell? ⟨gb261, 1, none⟩ = some (.string t251) := (blk_cell BK261.out 1).trans rfl
                  have hcz54_2 : wr.cell? ⟨gb261, 2, none⟩ = some (u262002) := (blk_cell BK261.out 2).trans rfl
                  have hcz54_3 : wr.cell? ⟨gb261, 3, none⟩ = some (.slice Ao34 t255.length co34) := (blk_cell BK261.out 3).trans rfl
                  have hcz54_4 : wr.cell? ⟨gb261, 4, none⟩ = some (.slice Ao35 t258.length co35) := (blk_cell BK261.out 4).trans rfl
                  have hfz54_0 := blk_frozen BK261.out 0
                  have hfz54_1 := blk_frozen BK261.out 1
                  have hfz54_2 := blk_frozen BK261.out 2
                  have hfz54_3 := blk_frozen BK261.out 3
                  have hfz54_4 := blk_frozen BK261.out 4
                  obtain ⟨Ao55, co55, eo55⟩ := Kd.R_slice HO_262002.out
                  subst eo55
                  try go_wp2
                  have n0_ := Aside0.mk (Kd.R_drew HO_238002.out)
                  have n1_ := Aside0.mk (Kd.R_drew HO_238003.out)
                  have n2_ := Aside0.mk (Kd.R_drew HO_238004.out)
                  have n3_ := Aside0.mk (Kd.R_drew HO_250002.out)
                  have n4_ := Aside0.mk (Kd.R_drew HO_250003.out)
                  have n5_ := Aside0.mk (Kd.R_drew HO_250004.out)
                  have n6_ := Aside0.mk (Kd.R_drew HO_262002.out)
                  have n7_ := Aside0.mk (Kd.R_drew HO_262003.out)
                  have n8_ := Aside0.mk (Kd.R_drew HO_262004.out)
                  have n9_ := Aside0.mk (blk_drew BK224.out)
                  have n10_ := Aside0.mk (blk_drew BK237.out)
                  have n11_ := Aside0.mk (blk_drew BK249.out)
                  have n12_ := Aside0.mk (blk_drew BK261.out)
                  have n13_ := Aside0.mk (below_drew1 HB.out)
                  clear HO_238002
                  clear HO_238003
                  clear HO_238004
                  clear HO_250002
                  clear HO_250003
                  clear HO_250004
                  clear HO_262002
                  clear HO_262003
                  clear HO_262004
                  clear BK224
                  clear BK237
                  clear BK249
                  clear BK261
                  clear HB
                  have HO_238002 := n0_
                  have HO_238003 := n1_
                  have HO_238004 := n2_
                  have HO_250002 := n3_
                  have HO_250003 := n4_
                  have HO_250004 := n5_
                  have HO_262002 := n6_
                  have HO_262003 := n7_
                  have HO_262004 := n8_
                  have BK224 := n9_
                  have BK237 := n10_
                  have BK249 := n11_
                  have BK261 := n12_
                  have HB := n13_
                  clear n0_ n1_ n2_ n3_ n4_ n5_ n6_ n7_ n8_ n9_ n10_ n11_ n12_ n13_
                  have p263 : 0 ≤ (x7_2 : Int) := of_decide_eq_true (by first | (with_reducible assumption) | assumption)
                  have q263 : x7_2 < (x262002_2.length : Int) := of_decide_eq_true (by first | (with_reducible assumption) | assumption)
                  obtain ⟨ad263, e263, hx263_0⟩ := Kd.at_string (Kd.R_reads' HO_262002.out).2.2 x7_2 p263 q263
                  cases e263
                  replace p263 := eq_true p263
                  replace q263 := eq_true q263
                  have p50 : 0 ≤ (x7_2 : Int) := of_decide_eq_true (by first | (with_reducible assumption) | assumption)
                  have q50 : (x7_2 : Int) < ((x262002_2.length : Int) : Int) := of_decide_eq_true (by first | (with_reducible assumption) | assumption)
                  obtain ⟨go50, co50, eo50, gb50, gl50, cl50, HG50⟩ := Kd.R_form HO_262002.out (by omega)
                  (first | cases eo50 | (injection eo50 with ea_ en_ ec_; (first | subst ea_ | (injection ea_ with ea_; subst ea_)); subst ec_; clear en_))
                  have GB50 := Aside0.mk gb50
                  have GG50 := Aside0.mk HG50
                  clear gb50 gl50 HG50
                  (first | simp only [add_plain] at hx263_0 | skip)
                  obtain ⟨hx50_0, hf50_0⟩ := Kd.R_celln (⟨#[]⟩ : ByteArray) HO_262002.out (x7_2 : Int) p50 q50
                  replace p50 := eq_true p50
                  replace q50 := eq_true q50
                  have HP57 := Kd.R_putn HO_262002.out (x7_2 : Int) ((rdOf ByteArray.empty x262002_2 x7_2) ++ (⟨#[122]⟩ : ByteArray))
                  rw [← Ny264.out] at HP57
                  have HQ57 := Aside0.mk HP57
                  clear HP57
                  refine start_ (n := 11) (S := fun w' => w'.cell? ⟨gb261, 0, none⟩ = some (.int .u8 t250) ∧ w'.cell? ⟨gb261, 1, none⟩ = some (.string t251) ∧ w'.cell? ⟨gb261, 2, none⟩ = some (.slice (some ⟨go50, 0, none⟩) x262002_2.length co55) ∧ w'.cell? ⟨gb261, 3, none⟩ = some (.slice Ao34 t255.length co34) ∧ w'.cell? ⟨gb261, 4, none⟩ = some (.slice Ao35 t258.length co35) ∧ w'.cell? ⟨go50, (x7_2).toNat, none⟩ = some (.string (rdOf ByteArray.empty x262002_2 x7_2))) (ds := [10]) #[false, false, false, false, false, false, false, false, false, false, false] (by kernel_rfl) rfl rfl ⟨(blk_cell BK261.out 0).trans rfl, (blk_cell BK261.out 1).trans rfl, (blk_cell BK261.out 2).trans rfl, (blk_cell BK261.out 3).trans rfl, (blk_cell BK261.out 4).trans rfl, hx263_0⟩ (fun hHeld => ?_); refine with_tabW tipstafflaw09_ValueOwn.tab10 tipstafflaw09_ValueOwn.bits10 (fun HT_ HW_ => ?_)
                  generalize wr.drew = w56 at HO_238002 HO_238003 HO_238004 HO_250002 HO_250003 HO_250004 HO_262002 HO_262003 HO_262004 BK224 BK237 BK249 BK261 HB GG50 HQ57 hf50_0 hx263_0 hx50_0 hHeld ⊢
                  refine pure_ (i := 0) (N := some 32) (v := ?_) (a' := ?_) #[true, false, false, false, false, false, false, false, false, false, false] rfl rfl (any_of HT_.out (by kernel_rfl)) (fun _ _ _ h => h) (Or.inl ⟨by rfl, ?_⟩) ?_ ?_
                  rotate_left
                  · intro w'
                    go_simp
                    with_reducible rfl
                  rotate_left
                  · simp only [Act.put, List.setIfInBounds_toArray, List.set_cons_zero, List.set_cons_succ, i64_w, i32_w]
                    rfl
                  refine pure_ (i := 2) (N := some 34) (v := ?_) (a' := ?_) #[true, false, true, false, false, false, false, false, false, false, false] rfl rfl (any_of HT_.out (by kernel_rfl)) (fun _ _ _ h => h) (Or.inl ⟨by rfl, ?_⟩) ?_ ?_
                  rotate_left
                  · intro w'
                    go_simp
                    with_reducible rfl
                  rotate_left
                  · simp only [Act.put, List.setIfInBounds_toArray, List.set_cons_zero, List.set_cons_succ, i64_w, i32_w]
                    rfl
                  refine pure_ (i := 3) (N := some 35) (v := ?_) (a' := ?_) #[true, false, true, true, false, false, false, false, false, false, false] rfl rfl (any_of HT_.out (by kernel_rfl)) (fun _ _ _ h => h) (Or.inl ⟨by rfl, ?_⟩) ?_ ?_
                  rotate_left
                  · intro w'
                    go_simp
                    with_reducible rfl
                  rotate_left
                  · simp only [Act.put, List.setIfInBounds_toArray, List.set_cons_zero, List.set_cons_succ, i64_w, i32_w]
                    rfl
                  refine pure_ (i := 5) (N := some 37) (v := ?_) (a' := ?_) #[true, false, true, true, false, true, false, false, false, false, false] rfl rfl (any_of HT_.out (by kernel_rfl)) (fun _ _ _ h => h) (Or.inl ⟨by rfl, ?_⟩) ?_ ?_
                  rotate_left
                  · intro w'
                    go_simp
                    with_reducible rfl
                  rotate_left
                  · simp only [Act.put, List.setIfInBounds_toArray, List.set_cons_zero, List.set_cons_succ, i64_w, i32_w]
                    rfl
                  refine take_ (i := 1) (N := some 33) (v := ?_) (a' := ?_) #[true, true, true, true, false, true, false, false, false, false, false] rfl rfl (take_ofW HT_.out HW_.out (by kernel_rfl)) (fun _ _ _ h => h) (Or.inl ⟨by rfl, ?_⟩) hHeld ?_ ?_
                  rotate_left
                  · rintro w' ⟨s0, s1, s2, s3, s4, s5⟩
                    go_simp
                    with_reducible rfl
                  rotate_left
                  · simp only [Act.put, List.setIfInBounds_toArray, List.set_cons_zero, List.set_cons_succ, i64_w, i32_w]
                    rfl
                  refine take_ (i := 4) (N := some 36) (v := ?_) (a' := ?_) #[true, true, true, true, true, true, false, false, false, false, false] rfl rfl (take_ofW HT_.out HW_.out (by kernel_rfl)) (fun _ _ _ h => h) (Or.inl ⟨by rfl, ?_⟩) hHeld ?_ ?_
                  rotate_left
                  · rintro w' ⟨s0, s1, s2, s3, s4, s5⟩
                    go_simp
                    with_reducible rfl
                  rotate_left
                  · simp only [Act.put, List.setIfInBounds_toArray, List.set_cons_zero, List.set_cons_succ, i64_w, i32_w]
                    rfl
                  refine pure_ (i := 6) (N := some 38) (v := ?_) (a' := ?_) #[true, true, true, true, true, true, true, false, false, false, false] rfl rfl (any_of HT_.out (by kernel_rfl)) (fun _ _ _ h => h) (Or.inl ⟨by rfl, ?_⟩) ?_ ?_
                  rotate_left
                  · intro w'
                    go_simp
                    with_reducible rfl
                  rotate_left
                  · simp only [Act.put, List.setIfInBounds_toArray, List.set_cons_zero, List.set_cons_succ, i64_w, i32_w]
                    rfl
                  refine take_ (i := 7) (N := some 39) (v := ?_) (a' := ?_) #[true, true, true, true, true, true, true, true, false, false, false] rfl rfl (take_ofW HT_.out HW_.out (by kernel_rfl)) (fun _ _ _ h => h) (Or.inl ⟨by rfl, ?_⟩) hHeld ?_ ?_
                  rotate_left
                  · rintro w' ⟨s0, s1, s2, s3, s4, s5⟩
                    go_simp
                    with_reducible rfl
                  rotate_left
                  · simp only [Act.put, List.setIfInBounds_toArray, List.set_cons_zero, List.set_cons_succ, i64_w, i32_w]
                    rfl
                  refine pure_ (i := 8) (N := some 40) (v := ?_) (a' := ?_) #[true, true, true, true, true, true, true, true, true, false, false] rfl rfl (any_of HT_.out (by kernel_rfl)) (fun _ _ _ h => h) (Or.inl ⟨by rfl, ?_⟩) ?_ ?_
                  rotate_left
                  · intro w'
                    go_simp
                    with_reducible rfl
                  rotate_left
                  · simp only [Act.put, List.setIfInBounds_toArray, List.set_cons_zero, List.set_cons_succ, i64_w, i32_w]
                    rfl
                  refine pure_ (i := 9) (N := some 41) (v := ?_) (a' := ?_) #[true, true, true, true, true, true, true, true, true, true, false] rfl rfl (any_of HT_.out (by kernel_rfl)) (fun _ _ _ h => h) (Or.inl ⟨by rfl, ?_⟩) ?_ ?_
                  rotate_left
                  · intro w'
                    go_simp
                    with_reducible rfl
                  rotate_left
                  · simp only [Act.put, List.setIfInBounds_toArray, List.set_cons_zero, List.set_cons_succ, i64_w, i32_w]
                    rfl
                  refine last_ (i := 10) (N := none) #[true, true, true, true, true, true, true, true, true, true, true] rfl rfl (one_of HT_.out (by kernel_rfl)) (by decide) (fun K hK => ?_)
                  refine skip_ (w1 := ?_) (by rfl) rfl ?_ ?_
                  rotate_left
                  · go_simp
                    rfl
                  refine hK.out _ _ ?_
                  clear hK K
                  refine done_ (done_of HT_.out (by kernel_rfl)) ?_
                  try go_wp2
                  go_roundg k2
                  case measure => have := HJ5.out; have := HK2.out; omega
                  case rel => exact ⟨(wrap64 (x7_2 + 1)), (x238002_2), (x250002_2), (y264), (u238002), (u250002), (.slice (some ⟨go50, 0, none⟩) x262002_2.length co55), (by first | rfl | (simp; done) | (simp [*]; done)), H', ⟨by have := HJ5.out; have := HK2.out; omega⟩, ⟨by (with_reducible repeat (first | apply Kd.R_alloc | apply Kd.R_drewN | apply Kd.R_drew)); exact Kd.R_mono (Kd.R_far (p := ⟨go50, (x7_2 : Int).toNat, none⟩) (Kd.R_mono HO_238002.out (fun k_ hk => (⟨hk, fun e_ => hk.2 (by rw [e_]; rfl)⟩ : _ ∧ k_ ≠ go50))) (fun _ hk => hk.2) (.string ((rdOf ByteArray.empty x262002_2 x7_2) ++ (⟨#[122]⟩ : ByteArray)))) (fun _ hk => ⟨hk.1.1, hk.1.2⟩)⟩, ⟨by (with_reducible repeat (first | apply Kd.R_alloc | apply Kd.R_drewN | apply Kd.R_drew)); exact Kd.R_mono (Kd.R_far (p := ⟨go50, (x7_2 : Int).toNat, none⟩) (Kd.R_types HO_238003.out GG50.out (by decide)) (fun _ hk => hk.2) (.string ((rdOf ByteArray.empty x262002_2 x7_2) ++ (⟨#[122]⟩ : ByteArray)))) (fun _ hk => ⟨hk.1.1, hk.1.2⟩)⟩, ⟨by (with_reducible repeat (first | apply Kd.R_alloc | apply Kd.R_drewN | apply Kd.R_drew)); exact Kd.R_mono (Kd.R_far (p := ⟨go50, (x7_2 : Int).toNat, none⟩) (Kd.R_types HO_238004.out GG50.out (by decide)) (fun _ hk => hk.2) (.string ((rdOf ByteArray.empty x262002_2 x7_2) ++ (⟨#[122]⟩ : ByteArray)))) (fun _ hk => ⟨hk.1.1, hk.1.2⟩)⟩, ⟨by (with_reducible repeat (first | apply Kd.R_alloc | apply Kd.R_drewN | apply Kd.R_drew)); exact Kd.R_mono (Kd.R_far (p := ⟨go50, (x7_2 : Int).toNat, none⟩) (Kd.R_mono HO_250002.out (fun k_ hk => (⟨hk, fun e_ => hk.2 (by rw [e_]; rfl)⟩ : _ ∧ k_ ≠ go50))) (fun _ hk => hk.2) (.string ((rdOf ByteArray.empty x262002_2 x7_2) ++ (⟨#[122]⟩ : ByteArray)))) (fun _ hk => ⟨hk.1.1, hk.1.2⟩)⟩, ⟨by (with_reducible repeat (first | apply Kd.R_alloc | apply Kd.R_drewN | apply Kd.R_drew)); exact Kd.R_mono (Kd.R_far (p := ⟨go50, (x7_2 : Int).toNat, none⟩) (Kd.R_types HO_250003.out GG50.out (by decide)) (fun _ hk => hk.2) (.string ((rdOf ByteArray.empty x262002_2 x7_2) ++ (⟨#[122]⟩ : ByteArray)))) (fun _ hk => ⟨hk.1.1, hk.1.2⟩)⟩, ⟨by (with_reducible repeat (first | apply Kd.R_alloc | apply Kd.R_drewN | apply Kd.R_drew)); exact Kd.R_mono (Kd.R_far (p := ⟨go50, (x7_2 : Int).toNat, none⟩) (Kd.R_types HO_250004.out GG50.out (by decide)) (fun _ hk => hk.2) (.string ((rdOf ByteArray.empty x262002_2 x7_2) ++ (⟨#[122]⟩ : ByteArray)))) (fun _ hk => ⟨hk.1.1, hk.1.2⟩)⟩, ⟨by (with_reducible repeat (first | apply Kd.R_alloc | apply Kd.R_drewN | apply Kd.R_drew)); exact HQ57.out⟩, ⟨by (with_reducible repeat (first | apply Kd.R_alloc | apply Kd.R_drewN | apply Kd.R_drew)); exact Kd.R_mono (Kd.R_far (p := ⟨go50, (x7_2 : Int).toNat, none⟩) (Kd.R_types HO_262003.out GG50.out (by decide)) (fun _ hk => hk.2) (.string ((rdOf ByteArray.empty x262002_2 x7_2) ++ (⟨#[122]⟩ : ByteArray)))) (fun _ hk => ⟨hk.1.1, hk.1.2⟩)⟩, ⟨by (with_reducible repeat (first | apply Kd.R_alloc | apply Kd.R_drewN | apply Kd.R_drew)); exact Kd.R_mono (Kd.R_far (p := ⟨go50, (x7_2 : Int).toNat, none⟩) (Kd.R_types HO_262004.out GG50.out (by decide)) (fun _ hk => hk.2) (.string ((rdOf ByteArray.empty x262002_2 x7_2) ++ (⟨#[122]⟩ : ByteArray)))) (fun _ hk => ⟨hk.1.1, hk.1.2⟩)⟩, ⟨by (with_reducible repeat (first | refine blk_drewN ?_ _ | refine blk_drew ?_ | refine blk_alloc ?_ _)); refine blk_far ?_ (by have h_ := Kd.R_ne HO_262002.out BK224.out (by decide); intro e_; exact h_ (by rw [e_]; rfl)) _; (with_reducible repeat (first | refine blk_drewN ?_ _ | refine blk_drew ?_ | refine blk_alloc ?_ _)); exact BK224.out⟩, ⟨by (with_reducible repeat (first | refine blk_drewN ?_ _ | refine blk_drew ?_ | refine blk_alloc ?_ _)); refine blk_far ?_ (by have h_ := Kd.R_ne HO_262002.out BK237.out (by decide); intro e_; exact h_ (by rw [e_]; rfl)) _; (with_reducible repeat (first | refine blk_drewN ?_ _ | refine blk_drew ?_ | refine blk_alloc ?_ _)); exact BK237.out⟩, ⟨by (with_reducible repeat (first | refine blk_drewN ?_ _ | refine blk_drew ?_ | refine blk_alloc ?_ _)); refine blk_far ?_ (by have h_ := Kd.R_ne HO_262002.out BK249.out (by decide); intro e_; exact h_ (by rw [e_]; rfl)) _; (with_reducible repeat (first | refine blk_drewN ?_ _ | refine blk_drew ?_ | refine blk_alloc ?_ _)); exact BK249.out⟩, ⟨by (with_reducible repeat (first | refine blk_drewN ?_ _ | refine blk_drew ?_ | refine blk_alloc ?_ _)); refine blk_far ?_ (by have h_ := Kd.R_ne HO_262002.out BK261.out (by decide); intro e_; exact h_ (by rw [e_]; rfl)) _; (with_reducible repeat (first | refine blk_drewN ?_ _ | refine blk_drew ?_ | refine blk_alloc ?_ _)); exact BK261.out⟩, ⟨by repeat (first | (with_reducible first | exact HB.out | apply below_alloc | apply pw_below_drewN | apply below_drew1 | refine below_set ?_ GB50.out | refine below_set ?_ GE224.out | refine below_set ?_ GE237.out | refine below_set ?_ GE249.out | refine below_set ?_ GE261.out) | exact HB.out)⟩⟩
                · rw [if_neg c49] at H
                  exact absurd H (by simp)
              · rw [if_neg c48] at H
                exact absurd H (by simp)
            · rw [if_neg c47] at H
              have c47b0 : decide (x7_2 < (x262002_2.length : Int)) = false := decide_eq_false c47
              clear c47
              have H' := Aside0.mk H
              clear H
              have hnb58 := NB261_224.out
              have hnc58 := NB224_261.out
              have hnb59 := NB261_237.out
              have hnc59 := NB237_261.out
              have hnb60 := NB261_249.out
              have hnc60 := NB249_261.out
              have hcz61_0 : wr.cell? ⟨gb261, 0, none⟩ = some (.int .u8 t250) := (blk_cell BK261.out 0).trans rfl
              have hcz61_1 : wr.cell? ⟨gb261, 1, none⟩ = some (.string t251) := (blk_cell BK261.out 1).trans rfl
              have hcz61_2 : wr.cell? ⟨gb261, 2, none⟩ = some (u262002) := (blk_cell BK261.out 2).trans rfl
              have hcz61_3 : wr.cell? ⟨gb261, 3, none⟩ = some (.slice Ao34 t255.length co34) := (blk_cell BK261.out 3).trans rfl
              have hcz61_4 : wr.cell? ⟨gb261, 4, none⟩ = some (.slice Ao35 t258.length co35) := (blk_cell BK261.out 4).trans rfl
              have hfz61_0 := blk_frozen BK261.out 0
              have hfz61_1 := blk_frozen BK261.out 1
              have hfz61_2 := blk_frozen BK261.out 2
              have hfz61_3 := blk_frozen BK261.out 3
              have hfz61_4 := blk_frozen BK261.out 4
              obtain ⟨Ao62, co62, eo62⟩ := Kd.R_slice HO_262002.out
              subst eo62
              go_wp2
              go_loopg [8] k2 (fun kq v8 w' => ∃ (x8_3 : Int) (x238003_3 : List (S60)) (x250003_3 : List (S60)) (x262003_3 : List (S60)) (u238003 : Value) (u250003 : Value) (u262003 : Value), v8 = .int .i64 x8_3 ∧ Aside0 (tipstafflaw09_ValueOwn.l1 kq x8_3 t226 t227 x238002_2 x238003_3 t234 t238 t239 x250002_2 x250003_3 t246 t250 t251 x262002_2 x262003_3 t258 = some r) ∧ Aside0 (kq ≤ k2) ∧ Aside0 (Kd.R Kd.string 9 w' w.heap.size (fun k_ => some k_ ≠ (u250002 : Value).ownBlock ∧ some k_ ≠ ((.slice Ao62 x262002_2.length co62) : Value).ownBlock) u238002 x238002_2) ∧ Aside0 (Kd.R k60 60 w' w.heap.size (fun k_ => some k_ ≠ (u250003 : Value).ownBlock ∧ some k_ ≠ (u262003 : Value).ownBlock) u238003 x238003_3) ∧ Aside0 (Kd.R k62 62 w' w.heap.size (fun k_ => some k_ ≠ ((.slice Ao25 t246.length co25) : Value).ownBlock ∧ some k_ ≠ ((.slice Ao35 t258.length co35) : Value).ownBlock) (.slice Ao16 t234.length co16) t234) ∧ Aside0 (Kd.R Kd.string 9 w' w.heap.size (fun k_ => some k_ ≠ (u238002 : Value).ownBlock ∧ some k_ ≠ ((.slice Ao62 x262002_2.length co62) : Value).ownBlock) u250002 x250002_2) ∧ Aside0 (Kd.R k60 60 w' w.heap.size (fun k_ => some k_ ≠ (u238003 : Value).ownBlock ∧ some k_ ≠ (u262003 : Value).ownBlock) u250003 x250003_3) ∧ Aside0 (Kd.R k62 62 w' w.heap.size (fun k_ => some k_ ≠ ((.slice Ao16 t234.length co16) : Value).ownBlock ∧ some k_ ≠ ((.slice Ao35 t258.length co35) : Value).ownBlock) (.slice Ao25 t246.length co25) t246) ∧ Aside0 (Kd.R Kd.string 9 w' w.heap.size (fun k_ => some k_ ≠ (u238002 : Value).ownBlock ∧ some k_ ≠ (u250002 : Value).ownBlock) (.slice Ao62 x262002_2.length co62) x262002_2) ∧ Aside0 (Kd.R k60 60 w' w.heap.size (fun k_ => some k_ ≠ (u238003 : Value).ownBlock ∧ some k_ ≠ (u250003 : Value).ownBlock) u262003 x262003_3) ∧ Aside0 (Kd.R k62 62 w' w.heap.size (fun k_ => some k_ ≠ ((.slice Ao16 t234.length co16) : Value).ownBlock ∧ some k_ ≠ ((.slice Ao25 t246.length co25) : Value).ownBlock) (.slice Ao35 t258.length co35) t258) ∧ Aside0 (w'.heap[gb224]? = some (.cells #[.int .u8 a0_0, .string a0_1, (.slice A0_2 l0_2.length c0_2), (.slice A0_3 l0_3.length c0_3), (.slice A0_4 l0_4.length c0_4)] 26 (0, 0))) ∧ Aside0 (w'.heap[gb237]? = some (.cells #[.int .u8 t226, .string t227, u238002, u238003, (.slice Ao16 t234.length co16)] 26 (0, 0))) ∧ Aside0 (w'.heap[gb249]? = some (.cells #[.int .u8 t238, .string t239, u250002, u250003, (.slice Ao25 t246.length co25)] 26 (0, 0))) ∧ Aside0 (w'.heap[gb261]? = some (.cells #[.int .u8 t250, .string t251, (.slice Ao62 x262002_2.length co62), u262003, (.slice Ao35 t258.length co35)] 26 (0, 0))) ∧ Aside0 (Below w.heap.size w w'))
              case atStart => exact ⟨(0), (t231), (t243), (t255), (.slice Ao15 t231.length co15), (.slice Ao24 t243.length co24), (.slice Ao34 t255.length co34), (by first | rfl | (simp; done) | (simp [*]; done)), H', ⟨Nat.le_refl _⟩, ⟨by (with_reducible repeat (first | apply Kd.R_alloc | apply Kd.R_drewN | apply Kd.R_drew)); exact HO_238002.out⟩, ⟨by (with_reducible repeat (first | apply Kd.R_alloc | apply Kd.R_drewN | apply Kd.R_drew)); exact HO_238003.out⟩, ⟨by (with_reducible repeat (first | apply Kd.R_alloc | apply Kd.R_drewN | apply Kd.R_drew)); exact HO_238004.out⟩, ⟨by (with_reducible repeat (first | apply Kd.R_alloc | apply Kd.R_drewN | apply Kd.R_drew)); exact HO_250002.out⟩, ⟨by (with_reducible repeat (first | apply Kd.R_alloc | apply Kd.R_drewN | apply Kd.R_drew)); exact HO_250003.out⟩, ⟨by (with_reducible repeat (first | apply Kd.R_alloc | apply Kd.R_drewN | apply Kd.R_drew)); exact HO_250004.out⟩, ⟨by (with_reducible repeat (first | apply Kd.R_alloc | apply Kd.R_drewN | apply Kd.R_drew)); exact HO_262002.out⟩, ⟨by (with_reducible repeat (first | apply Kd.R_alloc | apply Kd.R_drewN | apply Kd.R_drew)); exact HO_262003.out⟩, ⟨by (with_reducible repeat (first | apply Kd.R_alloc | apply Kd.R_drewN | apply Kd.R_drew)); exact HO_262004.out⟩, ⟨by (with_reducible repeat (first | refine blk_drewN ?_ _ | refine blk_drew ?_ | refine blk_alloc ?_ _)); exact BK224.out⟩, ⟨by (with_reducible repeat (first | refine blk_drewN ?_ _ | refine blk_drew ?_ | refine blk_alloc ?_ _)); exact BK237.out⟩, ⟨by (with_reducible repeat (first | refine blk_drewN ?_ _ | refine blk_drew ?_ | refine blk_alloc ?_ _)); exact BK249.out⟩, ⟨by (with_reducible repeat (first | refine blk_drewN ?_ _ | refine blk_drew ?_ | refine blk_alloc ?_ _)); exact BK261.out⟩, ⟨by repeat (first | (with_reducible first | exact HB.out | apply below_alloc | apply pw_below_drewN | apply below_drew1 | refine below_set ?_ GE224.out | refine below_set ?_ GE237.out | refine below_set ?_ GE249.out | refine below_set ?_ GE261.out) | exact HB.out)⟩⟩
              case round =>
                clear H'
                try clear c1
                try clear c2
                try clear p2
                try clear q2
                try clear hx2
                try clear c3
                try clear c4
                try clear c5
                try clear p5
                try clear q5
                try clear hx5
                try clear hf5
                try clear c6
                try clear p6
                try clear c9
                try clear c12
                try clear c20
                try clear c21
                try clear p26
                try clear q26
                try clear hx26
                try clear c29
                try clear c30
                try clear c31
                try clear c36
                try clear c38
                try clear c39
                try clear c40
                try clear c41
                try clear c42
                try clear c43
                try clear c46
                try clear c47
                try clear c47b0
                try clear c48
                try clear c48b0
                try clear c49
                try clear c49b0
                try clear c49b1
                try clear c49b2
                try clear p50
                try clear q50
                try clear hx50
                try clear hf50
                try clear c51
                try clear c52
                try clear c53
                try clear c58
                try clear c59
                try clear c60
                try clear hcz13_0
                try clear hcz13_1
                try clear hcz13_2
                try clear hcz13_3
                try clear hcz13_4
                try clear hcz17_0
                try clear hcz17_1
                try clear hcz17_2
                try clear hcz17_3
                try clear hcz17_4
                try clear hcz22_0
                try clear hcz22_1
                try clear hcz22_2
                try clear hcz22_3
                try clear hcz22_4
                try clear hcz26_0
                try clear hcz26_1
                try clear hcz26_2
                try clear hcz26_3
                try clear hcz26_4
                try clear hcz32_0
                try clear hcz32_1
                try clear hcz32_2
                try clear hcz32_3
                try clear hcz32_4
                try clear hcz41_0
                try clear hcz41_1
                try clear hcz41_2
                try clear hcz41_3
                try clear hcz41_4
                try clear hcz44_0
                try clear hcz44_1
                try clear hcz44_2
                try clear hcz44_3
                try clear hcz44_4
                try clear hcz54_0
                try clear hcz54_1
                try clear hcz54_2
                try clear hcz54_3
                try clear hcz54_4
                try clear hcz61_0
                try clear hcz61_1
                try clear hcz61_2
                try clear hcz61_3
                try clear hcz61_4
                try clear hcz9_0
                try clear hcz9_1
                try clear hcz9_2
                try clear hcz9_3
                try clear hcz9_4
                try clear hfz13_0
                try clear hfz13_1
                try clear hfz13_2
                try clear hfz13_3
                try clear hfz13_4
                try clear hfz17_0
                try clear hfz17_1
                try clear hfz17_2
                try clear hfz17_3
                try clear hfz17_4
                try clear hfz22_0
                try clear hfz22_1
                try clear hfz22_2
                try clear hfz22_3
                try clear hfz22_4
                try clear hfz26_0
                try clear hfz26_1
                try clear hfz26_2
                try clear hfz26_3
                try clear hfz26_4
                try clear hfz32_0
                try clear hfz32_1
                try clear hfz32_2
                try clear hfz32_3
                try clear hfz32_4
                try clear hfz41_0
                try clear hfz41_1
                try clear hfz41_2
                try clear hfz41_3
                try clear hfz41_4
                try clear hfz44_0
                try clear hfz44_1
                try clear hfz44_2
                try clear hfz44_3
                try clear hfz44_4
                try clear hfz54_0
                try clear hfz54_1
                try clear hfz54_2
                try clear hfz54_3
                try clear hfz54_4
                try clear hfz61_0
                try clear hfz61_1
                try clear hfz61_2
                try clear hfz61_3
                try clear hfz61_4
                try clear hfz9_0
                try clear hfz9_1
                try clear hfz9_2
                try clear hfz9_3
                try clear hfz9_4
                try clear hx263_0
                try clear hx50_0
                try clear p2
                try clear p263
                try clear p50
                try clear q263
                try clear q50
                obtain ⟨x8_3, x238003_3, x250003_3, x262003_3, u238003, u250003, u262003, rfl, HA, HK3, HO_238002, HO_238003, HO_238004, HO_250002, HO_250003, HO_250004, HO_262002, HO_262003, HO_262004, BK224, BK237, BK249, BK261, HB⟩ := hrel
                cases gk with
                | zero => exact absurd HA.out (by simp [tipstafflaw09_ValueOwn.l1])
                | succ k3 =>
                  have H := HA.out
                  clear HA
                  simp only [tipstafflaw09_ValueOwn.l1] at H
                  by_cases c63 : x8_3 < (x262003_3.length : Int)
                  · rw [if_pos c63] at H
                    have c63b0 : decide (x8_3 < (x262003_3.length : Int)) = true := decide_eq_true c63
                    clear c63
                    by_cases c64 : 0 ≤ x8_3
                    · rw [if_pos c64] at H
                      have c64b0 : decide (0 ≤ x8_3) = true := decide_eq_true c64
                      clear c64
                      by_cases c65 : ((rd_T60 x262003_3 x8_3).f1).size + 1 ≤ 9223372036854775807
                      · rw [if_pos c65] at H
                        have c65b0 := eq_true c65
                        have c65b1 : decide (((rd_T60 x262003_3 x8_3).f1).size + 1 ≤ 9223372036854775807) = true := decide_eq_true c65
                        try have c65b2 : (9223372036854775807 < ((rd_T60 x262003_3 x8_3).f1).size + 1) = False := eq_false (Nat.not_lt.2 c65)
                        obtain ⟨y266, hy266⟩ : ∃ y_ : List (S60), y_ = (x262003_3.set (x8_3 : Int).toNat (⟨(rd_T60 x262003_3 x8_3).f0, ((rd_T60 x262003_3 x8_3).f1) ++ (⟨#[122]⟩ : ByteArray)⟩ : S60)) := ⟨_, rfl⟩
                        replace H : (tipstafflaw09_ValueOwn.l1 k3 (wrap64 (x8_3 + 1)) t226 t227 x238002_2 x238003_3 t234 t238 t239 x250002_2 x250003_3 t246 t250 t251 x262002_2 y266 t258) = some r := by first | (rw [hy266]; with_reducible exact H) | (have H2_ := (Option.bind_some _ _).symm.trans H; rw [hy266]; with_reducible exact H2_) | (have H2_ := (Option.bind_some _ _).symm.trans H; with_reducible exact H2_) | with_reducible exact H | (rw [hy266]; exact H) | exact H
                        have Ny266 := Aside0.mk hy266
                        clear hy266
                        have H' := Aside0.mk H
                        clear H
                        have hnb67 := NB261_224.out
                        have hnc67 := NB224_261.out
                        have hnb68 := NB261_237.out
                        have hnc68 := NB237_261.out
                        have hnb69 := NB261_249.out
                        have hnc69 := NB249_261.out
                        have hcz70_0 : wr.cell? ⟨gb261, 0, none⟩ = some (.int .u8 t250) := (blk_cell BK261.out 0).trans rfl
                        have hcz70_1 : wr.cell? ⟨gb261, 1, none⟩ = some (.string t251) := (blk_cell BK261.out 1).trans rfl
                        have hcz70_2 : wr.cell? ⟨gb261, 2, none⟩ = some (.slice Ao62 x262002_2.length co62) := (blk_cell BK261.out 2).trans rfl
                        have hcz70_3 : wr.cell? ⟨gb261, 3, none⟩ = some (u262003) := (blk_cell BK261.out 3).trans rfl
                        have hcz70_4 : wr.cell? ⟨gb261, 4, none⟩ = some (.slice Ao35 t258.length co35) := (blk_cell BK261.out 4).trans rfl
                        have hfz70_0 := blk_frozen BK261.out 0
                        have hfz70_1 := blk_frozen BK261.out 1
                        have hfz70_2 := blk_frozen BK261.out 2
                        have hfz70_3 := blk_frozen BK261.out 3
                        have hfz70_4 := blk_frozen BK261.out 4
                        obtain ⟨Ao71, co71, eo71⟩ := Kd.R_slice HO_262003.out
                        subst eo71
                        try go_wp2
                        have n0_ := Aside0.mk (Kd.R_drew HO_238002.out)
                        have n1_ := Aside0.mk (Kd.R_drew HO_238003.out)
                        have n2_ := Aside0.mk (Kd.R_drew HO_238004.out)
                        have n3_ := Aside0.mk (Kd.R_drew HO_250002.out)
                        have n4_ := Aside0.mk (Kd.R_drew HO_250003.out)
                        have n5_ := Aside0.mk (Kd.R_drew HO_250004.out)
                        have n6_ := Aside0.mk (Kd.R_drew HO_262002.out)
                        have n7_ := Aside0.mk (Kd.R_drew HO_262003.out)
                        have n8_ := Aside0.mk (Kd.R_drew HO_262004.out)
                        have n9_ := Aside0.mk (blk_drew BK224.out)
                        have n10_ := Aside0.mk (blk_drew BK237.out)
                        have n11_ := Aside0.mk (blk_drew BK249.out)
                        have n12_ := Aside0.mk (blk_drew BK261.out)
                        have n13_ := Aside0.mk (below_drew1 HB.out)
                        clear HO_238002
                        clear HO_238003
                        clear HO_238004
                        clear HO_250002
                        clear HO_250003
                        clear HO_250004
                        clear HO_262002
                        clear HO_262003
                        clear HO_262004
                        clear BK224
                        clear BK237
                        clear BK249
                        clear BK261
                        clear HB
                        have HO_238002 := n0_
                        have HO_238003 := n1_
                        have HO_238004 := n2_
                        have HO_250002 := n3_
                        have HO_250003 := n4_
                        have HO_250004 := n5_
                        have HO_262002 := n6_
                        have HO_262003 := n7_
                        have HO_262004 := n8_
                        have BK224 := n9_
                        have BK237 := n10_
                        have BK249 := n11_
                        have BK261 := n12_
                        have HB := n13_
                        clear n0_ n1_ n2_ n3_ n4_ n5_ n6_ n7_ n8_ n9_ n10_ n11_ n12_ n13_
                        have p265 : 0 ≤ (x8_3 : Int) := of_decide_eq_true (by first | (with_reducible assumption) | assumption)
                        have q265 : x8_3 < (x262003_3.length : Int) := of_decide_eq_true (by first | (with_reducible assumption) | assumption)
                        obtain ⟨ad265, e265, hx265_0, hx265_1⟩ := at_T60 (Kd.R_reads' HO_262003.out).2.2 x8_3 p265 q265
                        cases e265
                        replace p265 := eq_true p265
                        replace q265 := eq_true q265
                        have p66 : 0 ≤ (x8_3 : Int) := of_decide_eq_true (by first | (with_reducible assumption) | assumption)
                        have q66 : (x8_3 : Int) < ((x262003_3.length : Int) : Int) := of_decide_eq_true (by first | (with_reducible assumption) | assumption)
                        obtain ⟨go66, co66, eo66, gb66, gl66, cl66, HG66⟩ := Kd.R_form HO_262003.out (by omega)
                        (first | cases eo66 | (injection eo66 with ea_ en_ ec_; (first | subst ea_ | (injection ea_ with ea_; subst ea_)); subst ec_; clear en_))
                        have GB66 := Aside0.mk gb66
                        have GG66 := Aside0.mk HG66
                        clear gb66 gl66 HG66
                        (first | simp only [add_plain] at hx265_0 | skip)
                        (first | simp only [add_plain] at hx265_1 | skip)
                        obtain ⟨ce66, hcl66, hM66, hcc66, hfr66⟩ := Kd.R_elem HO_262003.out z60 (x8_3 : Int) p66 q66
                        obtain rfl := k60_openM hM66
                        have hx66_0 : World.cell? _ ⟨go66, (x8_3 : Int).toNat * 2, none⟩ = some (.string ((rd_T60 x262003_3 x8_3).f0)) := hcc66 0 _ rfl
                        have hx66_1 : World.cell? _ ⟨go66, (x8_3 : Int).toNat * 2 + 1, none⟩ = some (.string ((rd_T60 x262003_3 x8_3).f1)) := hcc66 1 _ rfl
                        have hf66_0 : World.frozen? _ ⟨go66, (x8_3 : Int).toNat * 2, none⟩ = false := hfr66 0
                        have hf66_1 : World.frozen? _ ⟨go66, (x8_3 : Int).toNat * 2 + 1, none⟩ = false := hfr66 1
                        clear hcl66 hcc66 hfr66 hM66
                        replace p66 := eq_true p66
                        replace q66 := eq_true q66
                        obtain ⟨ce73, hcl73, hM73, hcc73, hfr73⟩ := Kd.R_elem HO_262003.out z60 (x8_3 : Int) (of_decide_eq_true (by first | (with_reducible assumption) | assumption)) (by have h_ : (x8_3 : Int) < ((x262003_3.length : Int) : Int) := of_decide_eq_true (by first | (with_reducible assumption) | assumption); first | exact h_ | (have e_ := (Kd.R_reads' HO_262003.out).1; omega) | (first | exact h_ | (simp; done) | (have h_ := h_; simp at h_; done) | (have h_ := h_; simp at h_ ⊢; first | done | exact h_)))
                        obtain rfl := k60_openM hM73
                        have HP73 := (Kd.R_seg HO_262003.out (x8_3 : Int) (of_decide_eq_true (by first | (with_reducible assumption) | assumption)) (by have h_ : (x8_3 : Int) < ((x262003_3.length : Int) : Int) := of_decide_eq_true (by first | (with_reducible assumption) | assumption); first | exact h_ | (have e_ := (Kd.R_reads' HO_262003.out).1; omega) | (first | exact h_ | (simp; done) | (have h_ := h_; simp at h_; done) | (have h_ := h_; simp at h_ ⊢; first | done | exact h_))) (seg := [.string (((rd_T60 x262003_3 x8_3).f1) ++ (⟨#[122]⟩ : ByteArray))]) (j := 1) hcl73 hcc73 (show 2 ≤ 2 from by decide) (x' := (⟨(rd_T60 x262003_3 x8_3).f0, ((rd_T60 x262003_3 x8_3).f1) ++ (⟨#[122]⟩ : ByteArray)⟩ : S60)) (k60_mkM _ _ _ (⟨(rd_T60 x262003_3 x8_3).f0, ((rd_T60 x262003_3 x8_3).f1) ++ (⟨#[122]⟩ : ByteArray)⟩ : S60) ) (fun _ hk => hk)).1
                        rw [← Ny266.out] at HP73
                        have HQ73 := Aside0.mk HP73
                        clear hcl73 hcc73 hfr73 hM73 HP73
                        refine start_ (n := 13) (S := fun w' => w'.cell? ⟨gb261, 0, none⟩ = some (.int .u8 t250) ∧ w'.cell? ⟨gb261, 1, none⟩ = some (.string t251) ∧ w'.cell? ⟨gb261, 2, none⟩ = some (.slice Ao62 x262002_2.length co62) ∧ w'.cell? ⟨gb261, 3, none⟩ = some (.slice (some ⟨go66, 0, none⟩) x262003_3.length co71) ∧ w'.cell? ⟨gb261, 4, none⟩ = some (.slice Ao35 t258.length co35) ∧ w'.cell? ⟨go66, ((x8_3).toNat * 2), none⟩ = some (.string ((rd_T60 x262003_3 x8_3).f0)) ∧ w'.cell? ⟨go66, ((x8_3).toNat * 2) + 1, none⟩ = some (.string ((rd_T60 x262003_3 x8_3).f1))) (ds := [12]) #[false, false, false, false, false, false, false, false, false, false, false, false, false] (by kernel_rfl) rfl rfl ⟨(blk_cell BK261.out 0).trans rfl, (blk_cell BK261.out 1).trans rfl, (blk_cell BK261.out 2).trans rfl, (blk_cell BK261.out 3).trans rfl, (blk_cell BK261.out 4).trans rfl, hx265_0, hx265_1⟩ (fun hHeld => ?_); refine with_tabW tipstafflaw09_ValueOwn.tab14 tipstafflaw09_ValueOwn.bits14 (fun HT_ HW_ => ?_)
                        generalize wr.drew = w72 at HO_238002 HO_238003 HO_238004 HO_250002 HO_250003 HO_250004 HO_262002 HO_262003 HO_262004 BK224 BK237 BK249 BK261 HB GG66 HQ73 hf66_0 hf66_1 hx265_0 hx265_1 hx66_0 hx66_1 hHeld ⊢
                        refine pure_ (i := 0) (N := some 49) (v := ?_) (a' := ?_) #[true, false, false, false, false, false, false, false, false, false, false, false, false] rfl rfl (any_of HT_.out (by kernel_rfl)) (fun _ _ _ h => h) (Or.inl ⟨by rfl, ?_⟩) ?_ ?_
                        rotate_left
                        · intro w'
                          go_simp
                          with_reducible rfl
                        rotate_left
                        · simp only [Act.put, List.setIfInBounds_toArray, List.set_cons_zero, List.set_cons_succ, i64_w, i32_w]
                          rfl
                        refine pure_ (i := 2) (N := some 51) (v := ?_) (a' := ?_) #[true, false, true, false, false, false, false, false, false, false, false, false, false] rfl rfl (any_of HT_.out (by kernel_rfl)) (fun _ _ _ h => h) (Or.inl ⟨by rfl, ?_⟩) ?_ ?_
                        rotate_left
                        · intro w'
                          go_simp
                          with_reducible rfl
                        rotate_left
                        · simp only [Act.put, List.setIfInBounds_toArray, List.set_cons_zero, List.set_cons_succ, i64_w, i32_w]
                          rfl
                        refine pure_ (i := 3) (N := some 52) (v := ?_) (a' := ?_) #[true, false, true, true, false, false, false, false, false, false, false, false, false] rfl rfl (any_of HT_.out (by kernel_rfl)) (fun _ _ _ h => h) (Or.inl ⟨by rfl, ?_⟩) ?_ ?_
                        rotate_left
                        · intro w'
                          go_simp
                          with_reducible rfl
                        rotate_left
                        · simp only [Act.put, List.setIfInBounds_toArray, List.set_cons_zero, List.set_cons_succ, i64_w, i32_w]
                          rfl
                        refine pure_ (i := 5) (N := some 54) (v := ?_) (a' := ?_) #[true, false, true, true, false, true, false, false, false, false, false, false, false] rfl rfl (any_of HT_.out (by kernel_rfl)) (fun _ _ _ h => h) (Or.inl ⟨by rfl, ?_⟩) ?_ ?_
                        rotate_left
                        · intro w'
                          go_simp
                          with_reducible rfl
                        rotate_left
                        · simp only [Act.put, List.setIfInBounds_toArray, List.set_cons_zero, List.set_cons_succ, i64_w, i32_w]
                          rfl
                        refine take_ (i := 1) (N := some 50) (v := ?_) (a' := ?_) #[true, true, true, true, false, true, false, false, false, false, false, false, false] rfl rfl (take_ofW HT_.out HW_.out (by kernel_rfl)) (fun _ _ _ h => h) (Or.inl ⟨by rfl, ?_⟩) hHeld ?_ ?_
                        rotate_left
                        · rintro w' ⟨s0, s1, s2, s3, s4, s5, s6⟩
                          go_simp
                          with_reducible rfl
                        rotate_left
                        · simp only [Act.put, List.setIfInBounds_toArray, List.set_cons_zero, List.set_cons_succ, i64_w, i32_w]
                          rfl
                        refine take_ (i := 4) (N := some 53) (v := ?_) (a' := ?_) #[true, true, true, true, true, true, false, false, false, false, false, false, false] rfl rfl (take_ofW HT_.out HW_.out (by kernel_rfl)) (fun _ _ _ h => h) (Or.inl ⟨by rfl, ?_⟩) hHeld ?_ ?_
                        rotate_left
                        · rintro w' ⟨s0, s1, s2, s3, s4, s5, s6⟩
                          go_simp
                          with_reducible rfl
                        rotate_left
                        · simp only [Act.put, List.setIfInBounds_toArray, List.set_cons_zero, List.set_cons_succ, i64_w, i32_w]
                          rfl
                        refine pure_ (i := 6) (N := some 55) (v := ?_) (a' := ?_) #[true, true, true, true, true, true, true, false, false, false, false, false, false] rfl rfl (any_of HT_.out (by kernel_rfl)) (fun _ _ _ h => h) (Or.inl ⟨by rfl, ?_⟩) ?_ ?_
                        rotate_left
                        · intro w'
                          go_simp
                          with_reducible rfl
                        rotate_left
                        · simp only [Act.put, List.setIfInBounds_toArray, List.set_cons_zero, List.set_cons_succ, i64_w, i32_w]
                          rfl
                        refine pure_ (i := 7) (N := some 56) (v := ?_) (a' := ?_) #[true, true, true, true, true, true, true, true, false, false, false, false, false] rfl rfl (any_of HT_.out (by kernel_rfl)) (fun _ _ _ h => h) (Or.inl ⟨by rfl, ?_⟩) ?_ ?_
                        rotate_left
                        · intro w'
                          go_simp
                          with_reducible rfl
                        rotate_left
                        · simp only [Act.put, List.setIfInBounds_toArray, List.set_cons_zero, List.set_cons_succ, i64_w, i32_w]
                          rfl
                        refine take_ (i := 8) (N := some 57) (v := ?_) (a' := ?_) #[true, true, true, true, true, true, true, true, true, false, false, false, false] rfl rfl (take_ofW HT_.out HW_.out (by kernel_rfl)) (fun _ _ _ h => h) (Or.inl ⟨by rfl, ?_⟩) hHeld ?_ ?_
                        rotate_left
                        · rintro w' ⟨s0, s1, s2, s3, s4, s5, s6⟩
                          go_simp
                          with_reducible rfl
                        rotate_left
                        · simp only [Act.put, List.setIfInBounds_toArray, List.set_cons_zero, List.set_cons_succ, i64_w, i32_w]
                          rfl
                        refine pure_ (i := 9) (N := some 58) (v := ?_) (a' := ?_) #[true, true, true, true, true, true, true, true, true, true, false, false, false] rfl rfl (any_of HT_.out (by kernel_rfl)) (fun _ _ _ h => h) (Or.inl ⟨by rfl, ?_⟩) ?_ ?_
                        rotate_left
                        · intro w'
                          go_simp
                          with_reducible rfl
                        rotate_left
                        · simp only [Act.put, List.setIfInBounds_toArray, List.set_cons_zero, List.set_cons_succ, i64_w, i32_w]
                          rfl
                        refine pure_ (i := 10) (N := some 59) (v := ?_) (a' := ?_) #[true, true, true, true, true, true, true, true, true, true, true, false, false] rfl rfl (any_of HT_.out (by kernel_rfl)) (fun _ _ _ h => h) (Or.inl ⟨by rfl, ?_⟩) ?_ ?_
                        rotate_left
                        · intro w'
                          go_simp
                          with_reducible rfl
                        rotate_left
                        · simp only [Act.put, List.setIfInBounds_toArray, List.set_cons_zero, List.set_cons_succ, i64_w, i32_w]
                          rfl
                        refine pure_ (i := 11) (N := some 60) (v := ?_) (a' := ?_) #[true, true, true, true, true, true, true, true, true, true, true, true, false] rfl rfl (any_of HT_.out (by kernel_rfl)) (fun _ _ _ h => h) (Or.inl ⟨by rfl, ?_⟩) ?_ ?_
                        rotate_left
                        · intro w'
                          go_simp
                          with_reducible rfl
                        rotate_left
                        · simp only [Act.put, List.setIfInBounds_toArray, List.set_cons_zero, List.set_cons_succ, i64_w, i32_w]
                          rfl
                        refine last_ (i := 12) (N := none) #[true, true, true, true, true, true, true, true, true, true, true, true, true] rfl rfl (one_of HT_.out (by kernel_rfl)) (by decide) (fun K hK => ?_)
                        refine skip_ (w1 := ?_) (by rfl) rfl ?_ ?_
                        rotate_left
                        · go_simp
                          rfl
                        refine hK.out _ _ ?_
                        clear hK K
                        refine done_ (done_of HT_.out (by kernel_rfl)) ?_
                        try go_wp2
                        go_roundg k3
                        case measure => have := HJ5.out; have := HK2.out; have := HK3.out; omega
                        case rel => exact ⟨(wrap64 (x8_3 + 1)), (x238003_3), (x250003_3), (y266), (u238003), (u250003), (.slice (some ⟨go66, 0, none⟩) x262003_3.length co71), (by first | rfl | (simp; done) | (simp [*]; done)), H', ⟨by have := HJ5.out; have := HK2.out; have := HK3.out; omega⟩, ⟨by (with_reducible repeat (first | apply Kd.R_alloc | apply Kd.R_drewN | apply Kd.R_drew)); exact Kd.R_mono (Kd.R_far (p := ⟨go66, (x8_3 : Int).toNat * 2 + 1, none⟩) (Kd.R_types HO_238002.out GG66.out (by decide)) (fun _ hk => hk.2) (.string (((rd_T60 x262003_3 x8_3).f1) ++ (⟨#[122]⟩ : ByteArray)))) (fun _ hk => ⟨hk.1.1, hk.1.2⟩)⟩, ⟨by (with_reducible repeat (first | apply Kd.R_alloc | apply Kd.R_drewN | apply Kd.R_drew)); exact Kd.R_mono (Kd.R_far (p := ⟨go66, (x8_3 : Int).toNat * 2 + 1, none⟩) (Kd.R_mono HO_238003.out (fun k_ hk => (⟨hk, fun e_ => hk.2 (by rw [e_]; rfl)⟩ : _ ∧ k_ ≠ go66))) (fun _ hk => hk.2) (.string (((rd_T60 x262003_3 x8_3).f1) ++ (⟨#[122]⟩ : ByteArray)))) (fun _ hk => ⟨hk.1.1, hk.1.2⟩)⟩, ⟨by (with_reducible repeat (first | apply Kd.R_alloc | apply Kd.R_drewN | apply Kd.R_drew)); exact Kd.R_mono (Kd.R_far (p := ⟨go66, (x8_3 : Int).toNat * 2 + 1, none⟩) (Kd.R_types HO_238004.out GG66.out (by decide)) (fun _ hk => hk.2) (.string (((rd_T60 x262003_3 x8_3).f1) ++ (⟨#[122]⟩ : ByteArray)))) (fun _ hk => ⟨hk.1.1, hk.1.2⟩)⟩, ⟨by (with_reducible repeat (first | apply Kd.R_alloc | apply Kd.R_drewN | apply Kd.R_drew)); exact Kd.R_mono (Kd.R_far (p := ⟨go66, (x8_3 : Int).toNat * 2 + 1, none⟩) (Kd.R_types HO_250002.out GG66.out (by decide)) (fun _ hk => hk.2) (.string (((rd_T60 x262003_3 x8_3).f1) ++ (⟨#[122]⟩ : ByteArray)))) (fun _ hk => ⟨hk.1.1, hk.1.2⟩)⟩, ⟨by (with_reducible repeat (first | apply Kd.R_alloc | apply Kd.R_drewN | apply Kd.R_drew)); exact Kd.R_mono (Kd.R_far (p := ⟨go66, (x8_3 : Int).toNat * 2 + 1, none⟩) (Kd.R_mono HO_250003.out (fun k_ hk => (⟨hk, fun e_ => hk.2 (by rw [e_]; rfl)⟩ : _ ∧ k_ ≠ go66))) (fun _ hk => hk.2) (.string (((rd_T60 x262003_3 x8_3).f1) ++ (⟨#[122]⟩ : ByteArray)))) (fun _ hk => ⟨hk.1.1, hk.1.2⟩)⟩, ⟨by (with_reducible repeat (first | apply Kd.R_alloc | apply Kd.R_drewN | apply Kd.R_drew)); exact Kd.R_mono (Kd.R_far (p := ⟨go66, (x8_3 : Int).toNat * 2 + 1, none⟩) (Kd.R_types HO_250004.out GG66.out (by decide)) (fun _ hk => hk.2) (.string (((rd_T60 x262003_3 x8_3).f1) ++ (⟨#[122]⟩ : ByteArray)))) (fun _ hk => ⟨hk.1.1, hk.1.2⟩)⟩, ⟨by (with_reducible repeat (first | apply Kd.R_alloc | apply Kd.R_drewN | apply Kd.R_drew)); exact Kd.R_mono (Kd.R_far (p := ⟨go66, (x8_3 : Int).toNat * 2 + 1, none⟩) (Kd.R_types HO_262002.out GG66.out (by decide)) (fun _ hk => hk.2) (.string (((rd_T60 x262003_3 x8_3).f1) ++ (⟨#[122]⟩ : ByteArray)))) (fun _ hk => ⟨hk.1.1, hk.1.2⟩)⟩, ⟨by (with_reducible repeat (first | apply Kd.R_alloc | apply Kd.R_drewN | apply Kd.R_drew)); exact HQ73.out⟩, ⟨by (with_reducible repeat (first | apply Kd.R_alloc | apply Kd.R_drewN | apply Kd.R_drew)); exact Kd.R_mono (Kd.R_far (p := ⟨go66, (x8_3 : Int).toNat * 2 + 1, none⟩) (Kd.R_types HO_262004.out GG66.out (by decide)) (fun _ hk => hk.2) (.string (((rd_T60 x262003_3 x8_3).f1) ++ (⟨#[122]⟩ : ByteArray)))) (fun _ hk => ⟨hk.1.1, hk.1.2⟩)⟩, ⟨by (with_reducible repeat (first | refine blk_drewN ?_ _ | refine blk_drew ?_ | refine blk_alloc ?_ _)); refine blk_far ?_ (by have h_ := Kd.R_ne HO_262003.out BK224.out (by decide); intro e_; exact h_ (by rw [e_]; rfl)) _; (with_reducible repeat (first | refine blk_drewN ?_ _ | refine blk_drew ?_ | refine blk_alloc ?_ _)); exact BK224.out⟩, ⟨by (with_reducible repeat (first | refine blk_drewN ?_ _ | refine blk_drew ?_ | refine blk_alloc ?_ _)); refine blk_far ?_ (by have h_ := Kd.R_ne HO_262003.out BK237.out (by decide); intro e_; exact h_ (by rw [e_]; rfl)) _; (with_reducible repeat (first | refine blk_drewN ?_ _ | refine blk_drew ?_ | refine blk_alloc ?_ _)); exact BK237.out⟩, ⟨by (with_reducible repeat (first | refine blk_drewN ?_ _ | refine blk_drew ?_ | refine blk_alloc ?_ _)); refine blk_far ?_ (by have h_ := Kd.R_ne HO_262003.out BK249.out (by decide); intro e_; exact h_ (by rw [e_]; rfl)) _; (with_reducible repeat (first | refine blk_drewN ?_ _ | refine blk_drew ?_ | refine blk_alloc ?_ _)); exact BK249.out⟩, ⟨by (with_reducible repeat (first | refine blk_drewN ?_ _ | refine blk_drew ?_ | refine blk_alloc ?_ _)); refine blk_far ?_ (by have h_ := Kd.R_ne HO_262003.out BK261.out (by decide); intro e_; exact h_ (by rw [e_]; rfl)) _; (with_reducible repeat (first | refine blk_drewN ?_ _ | refine blk_drew ?_ | refine blk_alloc ?_ _)); exact BK261.out⟩, ⟨by repeat (first | (with_reducible first | exact HB.out | apply below_alloc | apply pw_below_drewN | apply below_drew1 | refine below_set ?_ GB66.out | refine below_set ?_ GE224.out | refine below_set ?_ GE237.out | refine below_set ?_ GE249.out | refine below_set ?_ GE261.out) | exact HB.out)⟩⟩
                      · rw [if_neg c65] at H
                        exact absurd H (by simp)
                    · rw [if_neg c64] at H
                      exact absurd H (by simp)
                  · rw [if_neg c63] at H
                    have c63b0 : decide (x8_3 < (x262003_3.length : Int)) = false := decide_eq_false c63
                    clear c63
                    have H' := Aside0.mk H
                    clear H
                    have hnb74 := NB261_224.out
                    have hnc74 := NB224_261.out
                    have hnb75 := NB261_237.out
                    have hnc75 := NB237_261.out
                    have hnb76 := NB261_249.out
                    have hnc76 := NB249_261.out
                    have hcz77_0 : wr.cell? ⟨gb261, 0, none⟩ = some (.int .u8 t250) := (blk_cell BK261.out 0).trans rfl
                    have hcz77_1 : wr.cell? ⟨gb261, 1, none⟩ = some (.string t251) := (blk_cell BK261.out 1).trans rfl
                    have hcz77_2 : wr.cell? ⟨gb261, 2, none⟩ = some (.slice Ao62 x262002_2.length co62) := (blk_cell BK261.out 2).trans rfl
                    have hcz77_3 : wr.cell? ⟨gb261, 3, none⟩ = some (u262003) := (blk_cell BK261.out 3).trans rfl
                    have hcz77_4 : wr.cell? ⟨gb261, 4, none⟩ = some (.slice Ao35 t258.length co35) := (blk_cell BK261.out 4).trans rfl
                    have hfz77_0 := blk_frozen BK261.out 0
                    have hfz77_1 := blk_frozen BK261.out 1
                    have hfz77_2 := blk_frozen BK261.out 2
                    have hfz77_3 := blk_frozen BK261.out 3
                    have hfz77_4 := blk_frozen BK261.out 4
                    obtain ⟨Ao78, co78, eo78⟩ := Kd.R_slice HO_262003.out
                    subst eo78
                    go_wp2
                    go_loopg [9] k3 (fun kq v9 w' => ∃ (x9_4 : Int) (x238004_4 : List (S62)) (x250004_4 : List (S62)) (x262004_4 : List (S62)) (u238004 : Value) (u250004 : Value) (u262004 : Value), v9 = .int .i64 x9_4 ∧ Aside0 (tipstafflaw09_ValueOwn.l2 kq x9_4 t226 t227 x238002_2 x238003_3 x238004_4 t238 t239 x250002_2 x250003_3 x250004_4 t250 t251 x262002_2 x262003_3 x262004_4 = some r) ∧ Aside0 (kq ≤ k3) ∧ Aside0 (Kd.R Kd.string 9 w' w.heap.size (fun k_ => some k_ ≠ (u250002 : Value).ownBlock ∧ some k_ ≠ ((.slice Ao62 x262002_2.length co62) : Value).ownBlock) u238002 x238002_2) ∧ Aside0 (Kd.R k60 60 w' w.heap.size (fun k_ => some k_ ≠ (u250003 : Value).ownBlock ∧ some k_ ≠ ((.slice Ao78 x262003_3.length co78) : Value).ownBlock) u238003 x238003_3) ∧ Aside0 (Kd.R k62 62 w' w.heap.size (fun k_ => some k_ ≠ (u250004 : Value).ownBlock ∧ some k_ ≠ (u262004 : Value).ownBlock) u238004 x238004_4) ∧ Aside0 (Kd.R Kd.string 9 w' w.heap.size (fun k_ => some k_ ≠ (u238002 : Value).ownBlock ∧ some k_ ≠ ((.slice Ao62 x262002_2.length co62) : Value).ownBlock) u250002 x250002_2) ∧ Aside0 (Kd.R k60 60 w' w.heap.size (fun k_ => some k_ ≠ (u238003 : Value).ownBlock ∧ some k_ ≠ ((.slice Ao78 x262003_3.length co78) : Value).ownBlock) u250003 x250003_3) ∧ Aside0 (Kd.R k62 62 w' w.heap.size (fun k_ => some k_ ≠ (u238004 : Value).ownBlock ∧ some k_ ≠ (u262004 : Value).ownBlock) u250004 x250004_4) ∧ Aside0 (Kd.R Kd.string 9 w' w.heap.size (fun k_ => some k_ ≠ (u238002 : Value).ownBlock ∧ some k_ ≠ (u250002 : Value).ownBlock) (.slice Ao62 x262002_2.length co62) x262002_2) ∧ Aside0 (Kd.R k60 60 w' w.heap.size (fun k_ => some k_ ≠ (u238003 : Value).ownBlock ∧ some k_ ≠ (u250003 : Value).ownBlock) (.slice Ao78 x262003_3.length co78) x262003_3) ∧ Aside0 (Kd.R k62 62 w' w.heap.size (fun k_ => some k_ ≠ (u238004 : Value).ownBlock ∧ some k_ ≠ (u250004 : Value).ownBlock) u262004 x262004_4) ∧ Aside0 (w'.heap[gb224]? = some (.cells #[.int .u8 a0_0, .string a0_1, (.slice A0_2 l0_2.length c0_2), (.slice A0_3 l0_3.length c0_3), (.slice A0_4 l0_4.length c0_4)] 26 (0, 0))) ∧ Aside0 (w'.heap[gb237]? = some (.cells #[.int .u8 t226, .string t227, u238002, u238003, u238004] 26 (0, 0))) ∧ Aside0 (w'.heap[gb249]? = some (.cells #[.int .u8 t238, .string t239, u250002, u250003, u250004] 26 (0, 0))) ∧ Aside0 (w'.heap[gb261]? = some (.cells #[.int .u8 t250, .string t251, (.slice Ao62 x262002_2.length co62), (.slice Ao78 x262003_3.length co78), u262004] 26 (0, 0))) ∧ Aside0 (Below w.heap.size w w'))
                    case atStart => exact ⟨(0), (t234), (t246), (t258), (.slice Ao16 t234.length co16), (.slice Ao25 t246.length co25), (.slice Ao35 t258.length co35), (by first | rfl | (simp; done) | (simp [*]; done)), H', ⟨Nat.le_refl _⟩, ⟨by (with_reducible repeat (first | apply Kd.R_alloc | apply Kd.R_drewN | apply Kd.R_drew)); exact HO_238002.out⟩, ⟨by (with_reducible repeat (first | apply Kd.R_alloc | apply Kd.R_drewN | apply Kd.R_drew)); exact HO_238003.out⟩, ⟨by (with_reducible repeat (first | apply Kd.R_alloc | apply Kd.R_drewN | apply Kd.R_drew)); exact HO_238004.out⟩, ⟨by (with_reducible repeat (first | apply Kd.R_alloc | apply Kd.R_drewN | apply Kd.R_drew)); exact HO_250002.out⟩, ⟨by (with_reducible repeat (first | apply Kd.R_alloc | apply Kd.R_drewN | apply Kd.R_drew)); exact HO_250003.out⟩, ⟨by (with_reducible repeat (first | apply Kd.R_alloc | apply Kd.R_drewN | apply Kd.R_drew)); exact HO_250004.out⟩, ⟨by (with_reducible repeat (first | apply Kd.R_alloc | apply Kd.R_drewN | apply Kd.R_drew)); exact HO_262002.out⟩, ⟨by (with_reducible repeat (first | apply Kd.R_alloc | apply Kd.R_drewN | apply Kd.R_drew)); exact HO_262003.out⟩, ⟨by (with_reducible repeat (first | apply Kd.R_alloc | apply Kd.R_drewN | apply Kd.R_drew)); exact HO_262004.out⟩, ⟨by (with_reducible repeat (first | refine blk_drewN ?_ _ | refine blk_drew ?_ | refine blk_alloc ?_ _)); exact BK224.out⟩, ⟨by (with_reducible repeat (first | refine blk_drewN ?_ _ | refine blk_drew ?_ | refine blk_alloc ?_ _)); exact BK237.out⟩, ⟨by (with_reducible repeat (first | refine blk_drewN ?_ _ | refine blk_drew ?_ | refine blk_alloc ?_ _)); exact BK249.out⟩, ⟨by (with_reducible repeat (first | refine blk_drewN ?_ _ | refine blk_drew ?_ | refine blk_alloc ?_ _)); exact BK261.out⟩, ⟨by repeat (first | (with_reducible first | exact HB.out | apply below_alloc | apply pw_below_drewN | apply below_drew1 | refine below_set ?_ GE224.out | refine below_set ?_ GE237.out | refine below_set ?_ GE249.out | refine below_set ?_ GE261.out) | exact HB.out)⟩⟩
                    case round =>
                      clear H'
                      try clear c1
                      try clear c2
                      try clear p2
                      try clear q2
                      try clear hx2
                      try clear c3
                      try clear c4
                      try clear c5
                      try clear p5
                      try clear q5
                      try clear hx5
                      try clear hf5
                      try clear c6
                      try clear p6
                      try clear q6
                      try clear hx6
                      try clear hf6
                      try clear c7
                      try clear c9
                      try clear c12
                      try clear c20
                      try clear c21
                      try clear p26
                      try clear q26
                      try clear hx26
                      try clear c29
                      try clear c30
                      try clear c31
                      try clear c36
                      try clear c38
                      try clear c39
                      try clear c40
                      try clear c41
                      try clear c42
                      try clear c43
                      try clear c46
                      try clear c47
                      try clear c47b0
                      try clear c48
                      try clear c48b0
                      try clear c49
                      try clear c49b0
                      try clear c49b1
                      try clear c49b2
                      try clear p50
                      try clear q50
                      try clear hx50
                      try clear hf50
                      try clear c51
                      try clear c52
                      try clear c53
                      try clear c58
                      try clear c59
                      try clear c60
                      try clear c63
                      try clear c63b0
                      try clear c64
                      try clear c64b0
                      try clear p64
                      try clear c65
                      try clear c65b0
                      try clear c65b1
                      try clear c65b2
                      try clear c66
                      try clear p66
                      try clear q66
                      try clear hx66
                      try clear hf66
                      try clear c67
                      try clear c68
                      try clear c69
                      try clear c73
                      try clear c74
                      try clear c75
                      try clear c76
                      try clear hcz13_0
                      try clear hcz13_1
                      try clear hcz13_2
                      try clear hcz13_3
                      try clear hcz13_4
                      try clear hcz17_0
                      try clear hcz17_1
                      try clear hcz17_2
                      try clear hcz17_3
                      try clear hcz17_4
                      try clear hcz22_0
                      try clear hcz22_1
                      try clear hcz22_2
                      try clear hcz22_3
                      try clear hcz22_4
                      try clear hcz26_0
                      try clear hcz26_1
                      try clear hcz26_2
                      try clear hcz26_3
                      try clear hcz26_4
                      try clear hcz32_0
                      try clear hcz32_1
                      try clear hcz32_2
                      try clear hcz32_3
                      try clear hcz32_4
                      try clear hcz41_0
                      try clear hcz41_1
                      try clear hcz41_2
                      try clear hcz41_3
                      try clear hcz41_4
                      try clear hcz44_0
                      try clear hcz44_1
                      try clear hcz44_2
                      try clear hcz44_3
                      try clear hcz44_4
                      try clear hcz54_0
                      try clear hcz54_1
                      try clear hcz54_2
                      try clear hcz54_3
                      try clear hcz54_4
                      try clear hcz61_0
                      try clear hcz61_1
                      try clear hcz61_2
                      try clear hcz61_3
                      try clear hcz61_4
                      try clear hcz70_0
                      try clear hcz70_1
                      try clear hcz70_2
                      try clear hcz70_3
                      try clear hcz70_4
                      try clear hcz77_0
                      try clear hcz77_1
                      try clear hcz77_2
                      try clear hcz77_3
                      try clear hcz77_4
                      try clear hcz9_0
                      try clear hcz9_1
                      try clear hcz9_2
                      try clear hcz9_3
                      try clear hcz9_4
                      try clear hfz13_0
                      try clear hfz13_1
                      try clear hfz13_2
                      try clear hfz13_3
                      try clear hfz13_4
                      try clear hfz17_0
                      try clear hfz17_1
                      try clear hfz17_2
                      try clear hfz17_3
                      try clear hfz17_4
                      try clear hfz22_0
                      try clear hfz22_1
                      try clear hfz22_2
                      try clear hfz22_3
                      try clear hfz22_4
                      try clear hfz26_0
                      try clear hfz26_1
                      try clear hfz26_2
                      try clear hfz26_3
                      try clear hfz26_4
                      try clear hfz32_0
                      try clear hfz32_1
                      try clear hfz32_2
                      try clear hfz32_3
                      try clear hfz32_4
                      try clear hfz41_0
                      try clear hfz41_1
                      try clear hfz41_2
                      try clear hfz41_3
                      try clear hfz41_4
                      try clear hfz44_0
                      try clear hfz44_1
                      try clear hfz44_2
                      try clear hfz44_3
                      try clear hfz44_4
                      try clear hfz54_0
                      try clear hfz54_1
                      try clear hfz54_2
                      try clear hfz54_3
                      try clear hfz54_4
                      try clear hfz61_0
                      try clear hfz61_1
                      try clear hfz61_2
                      try clear hfz61_3
                      try clear hfz61_4
                      try clear hfz70_0
                      try clear hfz70_1
                      try clear hfz70_2
                      try clear hfz70_3
                      try clear hfz70_4
                      try clear hfz77_0
                      try clear hfz77_1
                      try clear hfz77_2
                      try clear hfz77_3
                      try clear hfz77_4
                      try clear hfz9_0
                      try clear hfz9_1
                      try clear hfz9_2
                      try clear hfz9_3
                      try clear hfz9_4
                      try clear hx263_0
                      try clear hx265_0
                      try clear hx265_1
                      try clear hx50_0
                      try clear hx66_0
                      try clear hx66_1
                      try clear p2
                      try clear p26
                      try clear p263
                      try clear p265
                      try clear p5
                      try clear p50
                      try clear p6
                      try clear p66
                      try clear q2
                      try clear q26
                      try clear q263
                      try clear q265
                      try clear q5
                      try clear q50
                      try clear q66
                      obtain ⟨x9_4, x238004_4, x250004_4, x262004_4, u238004, u250004, u262004, rfl, HA, HK4, HO_238002, HO_238003, HO_238004, HO_250002, HO_250003, HO_250004, HO_262002, HO_262003, HO_262004, BK224, BK237, BK249, BK261, HB⟩ := hrel
                      cases gk with
                      | zero => exact absurd HA.out (by simp [tipstafflaw09_ValueOwn.l2])
                      | succ k4 =>
                        have H := HA.out
                        clear HA
                        simp only [tipstafflaw09_ValueOwn.l2] at H
                        by_cases c79 : x9_4 < (x262004_4.length : Int)
                        · rw [if_pos c79] at H
                          have c79b0 : decide (x9_4 < (x262004_4.length : Int)) = true := decide_eq_true c79
                          clear c79
                          by_cases c80 : 0 ≤ x9_4
                          · rw [if_pos c80] at H
                            have c80b0 : decide (0 ≤ x9_4) = true := decide_eq_true c80
                            clear c80
                            by_cases c81 : ((rd_T62 x262004_4 x9_4).f0).size + 1 ≤ 9223372036854775807
                            · rw [if_pos c81] at H
                              have c81b0 := eq_true c81
                              have c81b1 : decide (((rd_T62 x262004_4 x9_4).f0).size + 1 ≤ 9223372036854775807) = true := decide_eq_true c81
                              try have c81b2 : (9223372036854775807 < ((rd_T62 x262004_4 x9_4).f0).size + 1) = False := eq_false (Nat.not_lt.2 c81)
                              obtain ⟨y268, hy268⟩ : ∃ y_ : List (S62), y_ = (x262004_4.set (x9_4 : Int).toNat (⟨((rd_T62 x262004_4 x9_4).f0) ++ (⟨#[122]⟩ : ByteArray), (rd_T62 x262004_4 x9_4).f1⟩ : S62)) := ⟨_, rfl⟩
                              replace H : (tipstafflaw09_ValueOwn.l2 k4 (wrap64 (x9_4 + 1)) t226 t227 x238002_2 x238003_3 x238004_4 t238 t239 x250002_2 x250003_3 x250004_4 t250 t251 x262002_2 x262003_3 y268) = some r := by first | (rw [hy268]; with_reducible exact H) | (have H2_ := (Option.bind_some _ _).symm.trans H; rw [hy268]; with_reducible exact H2_) | (have H2_ := (Option.bind_some _ _).symm.trans H; with_reducible exact H2_) | with_reducible exact H | (rw [hy268]; exact H) | exact H
                              have Ny268 := Aside0.mk hy268
                              clear hy268
                              have H' := Aside0.mk H
                              clear H
                              have hnb83 := NB261_224.out
                              have hnc83 := NB224_261.out
                              have hnb84 := NB261_237.out
                              have hnc84 := NB237_261.out
                              have hnb85 := NB261_249.out
                              have hnc85 := NB249_261.out
                              have hcz86_0 : wr.cell? ⟨gb261, 0, none⟩ = some (.int .u8 t250) := (blk_cell BK261.out 0).trans rfl
                              have hcz86_1 : wr.cell? ⟨gb261, 1, none⟩ = some (.string t251) := (blk_cell BK261.out 1).trans rfl
                              have hcz86_2 : wr.cell? ⟨gb261, 2, none⟩ = some (.slice Ao62 x262002_2.length co62) := (blk_cell BK261.out 2).trans rfl
                              have hcz86_3 : wr.cell? ⟨gb261, 3, none⟩ = some (.slice Ao78 x262003_3.length co78) := (blk_cell BK261.out 3).trans rfl
                              have hcz86_4 : wr.cell? ⟨gb261, 4, none⟩ = some (u262004) := (blk_cell BK261.out 4).trans rfl
                              have hfz86_0 := blk_frozen BK261.out 0
                              have hfz86_1 := blk_frozen BK261.out 1
                              have hfz86_2 := blk_frozen BK261.out 2
                              have hfz86_3 := blk_frozen BK261.out 3
                              have hfz86_4 := blk_frozen BK261.out 4
                              obtain ⟨Ao87, co87, eo87⟩ := Kd.R_slice HO_262004.out
                              subst eo87
                              try go_wp2
                              have n0_ := Aside0.mk (Kd.R_drew HO_238002.out)
                              have n1_ := Aside0.mk (Kd.R_drew HO_238003.out)
                              have n2_ := Aside0.mk (Kd.R_drew HO_238004.out)
                              have n3_ := Aside0.mk (Kd.R_drew HO_250002.out)
                              have n4_ := Aside0.mk (Kd.R_drew HO_250003.out)
                              have n5_ := Aside0.mk (Kd.R_drew HO_250004.out)
                              have n6_ := Aside0.mk (Kd.R_drew HO_262002.out)
                              have n7_ := Aside0.mk (Kd.R_drew HO_262003.out)
                              have n8_ := Aside0.mk (Kd.R_drew HO_262004.out)
                              have n9_ := Aside0.mk (blk_drew BK224.out)
                              have n10_ := Aside0.mk (blk_drew BK237.out)
                              have n11_ := Aside0.mk (blk_drew BK249.out)
                              have n12_ := Aside0.mk (blk_drew BK261.out)
                              have n13_ := Aside0.mk (below_drew1 HB.out)
                              clear HO_238002
                              clear HO_238003
                              clear HO_238004
                              clear HO_250002
                              clear HO_250003
                              clear HO_250004
                              clear HO_262002
                              clear HO_262003
                              clear HO_262004
                              clear BK224
                              clear BK237
                              clear BK249
                              clear BK261
                              clear HB
                              have HO_238002 := n0_
                              have HO_238003 := n1_
                              have HO_238004 := n2_
                              have HO_250002 := n3_
                              have HO_250003 := n4_
                              have HO_250004 := n5_
                              have HO_262002 := n6_
                              have HO_262003 := n7_
                              have HO_262004 := n8_
                              have BK224 := n9_
                              have BK237 := n10_
                              have BK249 := n11_
                              have BK261 := n12_
                              have HB := n13_
                              clear n0_ n1_ n2_ n3_ n4_ n5_ n6_ n7_ n8_ n9_ n10_ n11_ n12_ n13_
                              have p267 : 0 ≤ (x9_4 : Int) := of_decide_eq_true (by first | (with_reducible assumption) | assumption)
                              have q267 : x9_4 < (x262004_4.length : Int) := of_decide_eq_true (by first | (with_reducible assumption) | assumption)
                              obtain ⟨ad267, e267, hx267_0, hx267_1⟩ := at_T62 (Kd.R_reads' HO_262004.out).2.2 x9_4 p267 q267
                              cases e267
                              replace p267 := eq_true p267
                              replace q267 := eq_true q267
                              have p82 : 0 ≤ (x9_4 : Int) := of_decide_eq_true (by first | (with_reducible assumption) | assumption)
                              have q82 : (x9_4 : Int) < ((x262004_4.length : Int) : Int) := of_decide_eq_true (by first | (with_reducible assumption) | assumption)
                              obtain ⟨go82, co82, eo82, gb82, gl82, cl82, HG82⟩ := Kd.R_form HO_262004.out (by omega)
                              (first | cases eo82 | (injection eo82 with ea_ en_ ec_; (first | subst ea_ | (injection ea_ with ea_; subst ea_)); subst ec_; clear en_))
                              have GB82 := Aside0.mk gb82
                              have GG82 := Aside0.mk HG82
                              clear gb82 gl82 HG82
                              (first | simp only [add_plain] at hx267_0 | skip)
                              (first | simp only [add_plain] at hx267_1 | skip)
                              obtain ⟨ce82, hcl82, hM82, hcc82, hfr82⟩ := Kd.R_elem HO_262004.out z62 (x9_4 : Int) p82 q82
                              obtain rfl := k62_openM hM82
                              have hx82_0 : World.cell? _ ⟨go82, (x9_4 : Int).toNat * 2, none⟩ = some (.string ((rd_T62 x262004_4 x9_4).f0)) := hcc82 0 _ rfl
                              have hx82_1 : World.cell? _ ⟨go82, (x9_4 : Int).toNat * 2 + 1, none⟩ = some (.int .i64 ((rd_T62 x262004_4 x9_4).f1)) := hcc82 1 _ rfl
                              have hf82_0 : World.frozen? _ ⟨go82, (x9_4 : Int).toNat * 2, none⟩ = false := hfr82 0
                              have hf82_1 : World.frozen? _ ⟨go82, (x9_4 : Int).toNat * 2 + 1, none⟩ = false := hfr82 1
                              clear hcl82 hcc82 hfr82 hM82
                              replace p82 := eq_true p82
                              replace q82 := eq_true q82
                              obtain ⟨ce89, hcl89, hM89, hcc89, hfr89⟩ := Kd.R_elem HO_262004.out z62 (x9_4 : Int) (of_decide_eq_true (by first | (with_reducible assumption) | assumption)) (by have h_ : (x9_4 : Int) < ((x262004_4.length : Int) : Int) := of_decide_eq_true (by first | (with_reducible assumption) | assumption); first | exact h_ | (have e_ := (Kd.R_reads' HO_262004.out).1; omega) | (first | exact h_ | (simp; done) | (have h_ := h_; simp at h_; done) | (have h_ := h_; simp at h_ ⊢; first | done | exact h_)))
                              obtain rfl := k62_openM hM89
                              have HP89 := (Kd.R_seg HO_262004.out (x9_4 : Int) (of_decide_eq_true (by first | (with_reducible assumption) | assumption)) (by have h_ : (x9_4 : Int) < ((x262004_4.length : Int) : Int) := of_decide_eq_true (by first | (with_reducible assumption) | assumption); first | exact h_ | (have e_ := (Kd.R_reads' HO_262004.out).1; omega) | (first | exact h_ | (simp; done) | (have h_ := h_; simp at h_; done) | (have h_ := h_; simp at h_ ⊢; first | done | exact h_))) (seg := [.string (((rd_T62 x262004_4 x9_4).f0) ++ (⟨#[122]⟩ : ByteArray))]) (j := 0) hcl89 hcc89 (show 1 ≤ 2 from by decide) (x' := (⟨((rd_T62 x262004_4 x9_4).f0) ++ (⟨#[122]⟩ : ByteArray), (rd_T62 x262004_4 x9_4).f1⟩ : S62)) (k62_mkM _ _ _ (⟨((rd_T62 x262004_4 x9_4).f0) ++ (⟨#[122]⟩ : ByteArray), (rd_T62 x262004_4 x9_4).f1⟩ : S62) ) (fun _ hk => hk)).1
                              rw [← Ny268.out] at HP89
                              have HQ89 := Aside0.mk HP89
                              clear hcl89 hcc89 hfr89 hM89 HP89
                              refine start_ (n := 13) (S := fun w' => w'.cell? ⟨gb261, 0, none⟩ = some (.int .u8 t250) ∧ w'.cell? ⟨gb261, 1, none⟩ = some (.string t251) ∧ w'.cell? ⟨gb261, 2, none⟩ = some (.slice Ao62 x262002_2.length co62) ∧ w'.cell? ⟨gb261, 3, none⟩ = some (.slice Ao78 x262003_3.length co78) ∧ w'.cell? ⟨gb261, 4, none⟩ = some (.slice (some ⟨go82, 0, none⟩) x262004_4.length co87) ∧ w'.cell? ⟨go82, ((x9_4).toNat * 2), none⟩ = some (.string ((rd_T62 x262004_4 x9_4).f0)) ∧ w'.cell? ⟨go82, ((x9_4).toNat * 2) + 1, none⟩ = some (.int .i64 ((rd_T62 x262004_4 x9_4).f1))) (ds := [12]) #[false, false, false, false, false, false, false, false, false, false, false, false, false] (by kernel_rfl) rfl rfl ⟨(blk_cell BK261.out 0).trans rfl, (blk_cell BK261.out 1).trans rfl, (blk_cell BK261.out 2).trans rfl, (blk_cell BK261.out 3).trans rfl, (blk_cell BK261.out 4).trans rfl, hx267_0, hx267_1⟩ (fun hHeld => ?_); refine with_tabW tipstafflaw09_ValueOwn.tab18 tipstafflaw09_ValueOwn.bits18 (fun HT_ HW_ => ?_)
                              generalize wr.drew = w88 at HO_238002 HO_238003 HO_238004 HO_250002 HO_250003 HO_250004 HO_262002 HO_262003 HO_262004 BK224 BK237 BK249 BK261 HB GG82 HQ89 hf82_0 hf82_1 hx267_0 hx267_1 hx82_0 hx82_1 hHeld ⊢
                              refine pure_ (i := 0) (N := some 68) (v := ?_) (a' := ?_) #[true, false, false, false, false, false, false, false, false, false, false, false, false] rfl rfl (any_of HT_.out (by kernel_rfl)) (fun _ _ _ h => h) (Or.inl ⟨by rfl, ?_⟩) ?_ ?_
                              rotate_left
                              · intro w'
                                go_simp
                                with_reducible rfl
                              rotate_left
                              · simp only [Act.put, List.setIfInBounds_toArray, List.set_cons_zero, List.set_cons_succ, i64_w, i32_w]
                                rfl
                              refine pure_ (i := 2) (N := some 70) (v := ?_) (a' := ?_) #[true, false, true, false, false, false, false, false, false, false, false, false, false] rfl rfl (any_of HT_.out (by kernel_rfl)) (fun _ _ _ h => h) (Or.inl ⟨by rfl, ?_⟩) ?_ ?_
                              rotate_left
                              · intro w'
                                go_simp
                                with_reducible rfl
                              rotate_left
                              · simp only [Act.put, List.setIfInBounds_toArray, List.set_cons_zero, List.set_cons_succ, i64_w, i32_w]
                                rfl
                              refine pure_ (i := 3) (N := some 71) (v := ?_) (a' := ?_) #[true, false, true, true, false, false, false, false, false, false, false, false, false] rfl rfl (any_of HT_.out (by kernel_rfl)) (fun _ _ _ h => h) (Or.inl ⟨by rfl, ?_⟩) ?_ ?_
                              rotate_left
                              · intro w'
                                go_simp
                                with_reducible rfl
                              rotate_left
                              · simp only [Act.put, List.setIfInBounds_toArray, List.set_cons_zero, List.set_cons_succ, i64_w, i32_w]
                                rfl
                              refine pure_ (i := 5) (N := some 73) (v := ?_) (a' := ?_) #[true, false, true, true, false, true, false, false, false, false, false, false, false] rfl rfl (any_of HT_.out (by kernel_rfl)) (fun _ _ _ h => h) (Or.inl ⟨by rfl, ?_⟩) ?_ ?_
                              rotate_left
                              · intro w'
                                go_simp
                                with_reducible rfl
                              rotate_left
                              · simp only [Act.put, List.setIfInBounds_toArray, List.set_cons_zero, List.set_cons_succ, i64_w, i32_w]
                                rfl
                              refine take_ (i := 1) (N := some 69) (v := ?_) (a' := ?_) #[true, true, true, true, false, true, false, false, false, false, false, false, false] rfl rfl (take_ofW HT_.out HW_.out (by kernel_rfl)) (fun _ _ _ h => h) (Or.inl ⟨by rfl, ?_⟩) hHeld ?_ ?_
                              rotate_left
                              · rintro w' ⟨s0, s1, s2, s3, s4, s5, s6⟩
                                go_simp
                                with_reducible rfl
                              rotate_left
                              · simp only [Act.put, List.setIfInBounds_toArray, List.set_cons_zero, List.set_cons_succ, i64_w, i32_w]
                                rfl
                              refine take_ (i := 4) (N := some 72) (v := ?_) (a' := ?_) #[true, true, true, true, true, true, false, false, false, false, false, false, false] rfl rfl (take_ofW HT_.out HW_.out (by kernel_rfl)) (fun _ _ _ h => h) (Or.inl ⟨by rfl, ?_⟩) hHeld ?_ ?_
                              rotate_left
                              · rintro w' ⟨s0, s1, s2, s3, s4, s5, s6⟩
                                go_simp
                                with_reducible rfl
                              rotate_left
                              · simp only [Act.put, List.setIfInBounds_toArray, List.set_cons_zero, List.set_cons_succ, i64_w, i32_w]
                                rfl
                              refine pure_ (i := 6) (N := some 74) (v := ?_) (a' := ?_) #[true, true, true, true, true, true, true, false, false, false, false, false, false] rfl rfl (any_of HT_.out (by kernel_rfl)) (fun _ _ _ h => h) (Or.inl ⟨by rfl, ?_⟩) ?_ ?_
                              rotate_left
                              · intro w'
                                go_simp
                                with_reducible rfl
                              rotate_left
                              · simp only [Act.put, List.setIfInBounds_toArray, List.set_cons_zero, List.set_cons_succ, i64_w, i32_w]
                                rfl
                              refine pure_ (i := 7) (N := some 75) (v := ?_) (a' := ?_) #[true, true, true, true, true, true, true, true, false, false, false, false, false] rfl rfl (any_of HT_.out (by kernel_rfl)) (fun _ _ _ h => h) (Or.inl ⟨by rfl, ?_⟩) ?_ ?_
                              rotate_left
                              · intro w'
                                go_simp
                                with_reducible rfl
                              rotate_left
                              · simp only [Act.put, List.setIfInBounds_toArray, List.set_cons_zero, List.set_cons_succ, i64_w, i32_w]
                                rfl
                              refine take_ (i := 8) (N := some 76) (v := ?_) (a' := ?_) #[true, true, true, true, true, true, true, true, true, false, false, false, false] rfl rfl (take_ofW HT_.out HW_.out (by kernel_rfl)) (fun _ _ _ h => h) (Or.inl ⟨by rfl, ?_⟩) hHeld ?_ ?_
                              rotate_left
                              · rintro w' ⟨s0, s1, s2, s3, s4, s5, s6⟩
                                go_simp
                                with_reducible rfl
                              rotate_left
                              · simp only [Act.put, List.setIfInBounds_toArray, List.set_cons_zero, List.set_cons_succ, i64_w, i32_w]
                                rfl
                              refine pure_ (i := 9) (N := some 77) (v := ?_) (a' := ?_) #[true, true, true, true, true, true, true, true, true, true, false, false, false] rfl rfl (any_of HT_.out (by kernel_rfl)) (fun _ _ _ h => h) (Or.inl ⟨by rfl, ?_⟩) ?_ ?_
                              rotate_left
                              · intro w'
                                go_simp
                                with_reducible rfl
                              rotate_left
                              · simp only [Act.put, List.setIfInBounds_toArray, List.set_cons_zero, List.set_cons_succ, i64_w, i32_w]
                                rfl
                              refine pure_ (i := 10) (N := some 78) (v := ?_) (a' := ?_) #[true, true, true, true, true, true, true, true, true, true, true, false, false] rfl rfl (any_of HT_.out (by kernel_rfl)) (fun _ _ _ h => h) (Or.inl ⟨by rfl, ?_⟩) ?_ ?_
                              rotate_left
                              · intro w'
                                go_simp
                                with_reducible rfl
                              rotate_left
                              · simp only [Act.put, List.setIfInBounds_toArray, List.set_cons_zero, List.set_cons_succ, i64_w, i32_w]
                                rfl
                              refine pure_ (i := 11) (N := some 79) (v := ?_) (a' := ?_) #[true, true, true, true, true, true, true, true, true, true, true, true, false] rfl rfl (any_of HT_.out (by kernel_rfl)) (fun _ _ _ h => h) (Or.inl ⟨by rfl, ?_⟩) ?_ ?_
                              rotate_left
                              · intro w'
                                go_simp
                                with_reducible rfl
                              rotate_left
                              · simp only [Act.put, List.setIfInBounds_toArray, List.set_cons_zero, List.set_cons_succ, i64_w, i32_w]
                                rfl
                              refine last_ (i := 12) (N := none) #[true, true, true, true, true, true, true, true, true, true, true, true, true] rfl rfl (one_of HT_.out (by kernel_rfl)) (by decide) (fun K hK => ?_)
                              refine skip_ (w1 := ?_) (by rfl) rfl ?_ ?_
                              rotate_left
                              · go_simp
                                rfl
                              refine hK.out _ _ ?_
                              clear hK K
                              refine done_ (done_of HT_.out (by kernel_rfl)) ?_
                              try go_wp2
                              go_roundg k4
                              case measure => have := HJ5.out; have := HK2.out; have := HK3.out; have := HK4.out; omega
                              case rel => exact ⟨(wrap64 (x9_4 + 1)), (x238004_4), (x250004_4), (y268), (u238004), (u250004), (.slice (some ⟨go82, 0, none⟩) x262004_4.length co87), (by first | rfl | (simp; done) | (simp [*]; done)), H', ⟨by have := HJ5.out; have := HK2.out; have := HK3.out; have := HK4.out; omega⟩, ⟨by (with_reducible repeat (first | apply Kd.R_alloc | apply Kd.R_drewN | apply Kd.R_drew)); exact Kd.R_mono (Kd.R_far (p := ⟨go82, (x9_4 : Int).toNat * 2, none⟩) (Kd.R_types HO_238002.out GG82.out (by decide)) (fun _ hk => hk.2) (.string (((rd_T62 x262004_4 x9_4).f0) ++ (⟨#[122]⟩ : ByteArray)))) (fun _ hk => ⟨hk.1.1, hk.1.2⟩)⟩, ⟨by (with_reducible repeat (first | apply Kd.R_alloc | apply Kd.R_drewN | apply Kd.R_drew)); exact Kd.R_mono (Kd.R_far (p := ⟨go82, (x9_4 : Int).toNat * 2, none⟩) (Kd.R_types HO_238003.out GG82.out (by decide)) (fun _ hk => hk.2) (.string (((rd_T62 x262004_4 x9_4).f0) ++ (⟨#[122]⟩ : ByteArray)))) (fun _ hk => ⟨hk.1.1, hk.1.2⟩)⟩, ⟨by (with_reducible repeat (first | apply Kd.R_alloc | apply Kd.R_drewN | apply Kd.R_drew)); exact Kd.R_mono (Kd.R_far (p := ⟨go82, (x9_4 : Int).toNat * 2, none⟩) (Kd.R_mono HO_238004.out (fun k_ hk => (⟨hk, fun e_ => hk.2 (by rw [e_]; rfl)⟩ : _ ∧ k_ ≠ go82))) (fun _ hk => hk.2) (.string (((rd_T62 x262004_4 x9_4).f0) ++ (⟨#[122]⟩ : ByteArray)))) (fun _ hk => ⟨hk.1.1, hk.1.2⟩)⟩, ⟨by (with_reducible repeat (first | apply Kd.R_alloc | apply Kd.R_drewN | apply Kd.R_drew)); exact Kd.R_mono (Kd.R_far (p := ⟨go82, (x9_4 : Int).toNat * 2, none⟩) (Kd.R_types HO_250002.out GG82.out (by decide)) (fun _ hk => hk.2) (.string (((rd_T62 x262004_4 x9_4).f0) ++ (⟨#[122]⟩ : ByteArray)))) (fun _ hk => ⟨hk.1.1, hk.1.2⟩)⟩, ⟨by (with_reducible repeat (first | apply Kd.R_alloc | apply Kd.R_drewN | apply Kd.R_drew)); exact Kd.R_mono (Kd.R_far (p := ⟨go82, (x9_4 : Int).toNat * 2, none⟩) (Kd.R_types HO_250003.out GG82.out (by decide)) (fun _ hk => hk.2) (.string (((rd_T62 x262004_4 x9_4).f0) ++ (⟨#[122]⟩ : ByteArray)))) (fun _ hk => ⟨hk.1.1, hk.1.2⟩)⟩, ⟨by (with_reducible repeat (first | apply Kd.R_alloc | apply Kd.R_drewN | apply Kd.R_drew)); exact Kd.R_mono (Kd.R_far (p := ⟨go82, (x9_4 : Int).toNat * 2, none⟩) (Kd.R_mono HO_250004.out (fun k_ hk => (⟨hk, fun e_ => hk.2 (by rw [e_]; rfl)⟩ : _ ∧ k_ ≠ go82))) (fun _ hk => hk.2) (.string (((rd_T62 x262004_4 x9_4).f0) ++ (⟨#[122]⟩ : ByteArray)))) (fun _ hk => ⟨hk.1.1, hk.1.2⟩)⟩, ⟨by (with_reducible repeat (first | apply Kd.R_alloc | apply Kd.R_drewN | apply Kd.R_drew)); exact Kd.R_mono (Kd.R_far (p := ⟨go82, (x9_4 : Int).toNat * 2, none⟩) (Kd.R_types HO_262002.out GG82.out (by decide)) (fun _ hk => hk.2) (.string (((rd_T62 x262004_4 x9_4).f0) ++ (⟨#[122]⟩ : ByteArray)))) (fun _ hk => ⟨hk.1.1, hk.1.2⟩)⟩, ⟨by (with_reducible repeat (first | apply Kd.R_alloc | apply Kd.R_drewN | apply Kd.R_drew)); exact Kd.R_mono (Kd.R_far (p := ⟨go82, (x9_4 : Int).toNat * 2, none⟩) (Kd.R_types HO_262003.out GG82.out (by decide)) (fun _ hk => hk.2) (.string (((rd_T62 x262004_4 x9_4).f0) ++ (⟨#[122]⟩ : ByteArray)))) (fun _ hk => ⟨hk.1.1, hk.1.2⟩)⟩, ⟨by (with_reducible repeat (first | apply Kd.R_alloc | apply Kd.R_drewN | apply Kd.R_drew)); exact HQ89.out⟩, ⟨by (with_reducible repeat (first | refine blk_drewN ?_ _ | refine blk_drew ?_ | refine blk_alloc ?_ _)); refine blk_far ?_ (by have h_ := Kd.R_ne HO_262004.out BK224.out (by decide); intro e_; exact h_ (by rw [e_]; rfl)) _; (with_reducible repeat (first | refine blk_drewN ?_ _ | refine blk_drew ?_ | refine blk_alloc ?_ _)); exact BK224.out⟩, ⟨by (with_reducible repeat (first | refine blk_drewN ?_ _ | refine blk_drew ?_ | refine blk_alloc ?_ _)); refine blk_far ?_ (by have h_ := Kd.R_ne HO_262004.out BK237.out (by decide); intro e_; exact h_ (by rw [e_]; rfl)) _; (with_reducible repeat (first | refine blk_drewN ?_ _ | refine blk_drew ?_ | refine blk_alloc ?_ _)); exact BK237.out⟩, ⟨by (with_reducible repeat (first | refine blk_drewN ?_ _ | refine blk_drew ?_ | refine blk_alloc ?_ _)); refine blk_far ?_ (by have h_ := Kd.R_ne HO_262004.out BK249.out (by decide); intro e_; exact h_ (by rw [e_]; rfl)) _; (with_reducible repeat (first | refine blk_drewN ?_ _ | refine blk_drew ?_ | refine blk_alloc ?_ _)); exact BK249.out⟩, ⟨by (with_reducible repeat (first | refine blk_drewN ?_ _ | refine blk_drew ?_ | refine blk_alloc ?_ _)); refine blk_far ?_ (by have h_ := Kd.R_ne HO_262004.out BK261.out (by decide); intro e_; exact h_ (by rw [e_]; rfl)) _; (with_reducible repeat (first | refine blk_drewN ?_ _ | refine blk_drew ?_ | refine blk_alloc ?_ _)); exact BK261.out⟩, ⟨by repeat (first | (with_reducible first | exact HB.out | apply below_alloc | apply pw_below_drewN | apply below_drew1 | refine below_set ?_ GB82.out | refine below_set ?_ GE224.out | refine below_set ?_ GE237.out | refine below_set ?_ GE249.out | refine below_set ?_ GE261.out) | exact HB.out)⟩⟩
                            · rw [if_neg c81] at H
                              exact absurd H (by simp)
                          · rw [if_neg c80] at H
                            exact absurd H (by simp)
                        · rw [if_neg c79] at H
                          have c79b0 : decide (x9_4 < (x262004_4.length : Int)) = false := decide_eq_false c79
                          clear c79
                          replace H := Option.bind_eq_some_iff.mp H
                          obtain ⟨t269, A900, H⟩ := H
                          replace H : (if t269 = true then ((value_Same.f k4 t250 t251 x262002_2 x262003_3 x262004_4 t226 t227 x238002_2 x238003_3 x238004_4).bind fun t270 => (some (t270 == ((wrap64 ((wrap64 ((x238002_2.length : Int) + (x238003_3.length : Int))) + (x238004_4.length : Int))) == 0)))) else (some false)) = some r := H
                          have A90 := Aside0.mk A900
                          clear A900
                          by_cases c91 : t269 = true
                          · subst c91
                            have H1 : ((value_Same.f k4 t250 t251 x262002_2 x262003_3 x262004_4 t226 t227 x238002_2 x238003_3 x238004_4).bind fun t270 => (some (t270 == ((wrap64 ((wrap64 ((x238002_2.length : Int) + (x238003_3.length : Int))) + (x238004_4.length : Int))) == 0)))) = some r := by rw [if_pos rfl] at H; exact H
                            clear H
                            have H := H1
                            clear H1
                            replace H := Option.bind_eq_some_iff.mp H
                            obtain ⟨t270, A920, H⟩ := H
                            replace H : (some (t270 == ((wrap64 ((wrap64 ((x238002_2.length : Int) + (x238003_3.length : Int))) + (x238004_4.length : Int))) == 0))) = some r := H
                            have A92 := Aside0.mk A920
                            clear A920
                            obtain rfl := Option.some.inj H
                            have hnb93 := NB261_224.out
                            have hnc93 := NB224_261.out
                            have hnb94 := NB261_237.out
                            have hnc94 := NB237_261.out
                            have hnb95 := NB261_249.out
                            have hnc95 := NB249_261.out
                            have hcz96_0 : wr.cell? ⟨gb261, 0, none⟩ = some (.int .u8 t250) := (blk_cell BK261.out 0).trans rfl
                            have hcz96_1 : wr.cell? ⟨gb261, 1, none⟩ = some (.string t251) := (blk_cell BK261.out 1).trans rfl
                            have hcz96_2 : wr.cell? ⟨gb261, 2, none⟩ = some (.slice Ao62 x262002_2.length co62) := (blk_cell BK261.out 2).trans rfl
                            have hcz96_3 : wr.cell? ⟨gb261, 3, none⟩ = some (.slice Ao78 x262003_3.length co78) := (blk_cell BK261.out 3).trans rfl
                            have hcz96_4 : wr.cell? ⟨gb261, 4, none⟩ = some (u262004) := (blk_cell BK261.out 4).trans rfl
                            have hfz96_0 := blk_frozen BK261.out 0
                            have hfz96_1 := blk_frozen BK261.out 1
                            have hfz96_2 := blk_frozen BK261.out 2
                            have hfz96_3 := blk_frozen BK261.out 3
                            have hfz96_4 := blk_frozen BK261.out 4
                            obtain ⟨Ao97, co97, eo97⟩ := Kd.R_slice HO_262004.out
                            subst eo97
                            try go_wp2
                            have n0_ := Aside0.mk (Kd.R_drew HO_238002.out)
                            have n1_ := Aside0.mk (Kd.R_drew HO_238003.out)
                            have n2_ := Aside0.mk (Kd.R_drew HO_238004.out)
                            have n3_ := Aside0.mk (Kd.R_drew HO_250002.out)
                            have n4_ := Aside0.mk (Kd.R_drew HO_250003.out)
                            have n5_ := Aside0.mk (Kd.R_drew HO_250004.out)
                            have n6_ := Aside0.mk (Kd.R_drew HO_262002.out)
                            have n7_ := Aside0.mk (Kd.R_drew HO_262003.out)
                            have n8_ := Aside0.mk (Kd.R_drew HO_262004.out)
                            have n9_ := Aside0.mk (blk_drew BK224.out)
                            have n10_ := Aside0.mk (blk_drew BK237.out)
                            have n11_ := Aside0.mk (blk_drew BK249.out)
                            have n12_ := Aside0.mk (blk_drew BK261.out)
                            have n13_ := Aside0.mk (below_drew1 HB.out)
                            clear HO_238002
                            clear HO_238003
                            clear HO_238004
                            clear HO_250002
                            clear HO_250003
                            clear HO_250004
                            clear HO_262002
                            clear HO_262003
                            clear HO_262004
                            clear BK224
                            clear BK237
                            clear BK249
                            clear BK261
                            clear HB
                            have HO_238002 := n0_
                            have HO_238003 := n1_
                            have HO_238004 := n2_
                            have HO_250002 := n3_
                            have HO_250003 := n4_
                            have HO_250004 := n5_
                            have HO_262002 := n6_
                            have HO_262003 := n7_
                            have HO_262004 := n8_
                            have BK224 := n9_
                            have BK237 := n10_
                            have BK249 := n11_
                            have BK261 := n12_
                            have HB := n13_
                            clear n0_ n1_ n2_ n3_ n4_ n5_ n6_ n7_ n8_ n9_ n10_ n11_ n12_ n13_
                            obtain ⟨Ao99, co99, eo99⟩ := Kd.R_slice HO_238002.out
                            (first | subst eo99 | (injection eo99 with f1_ f2_ f3_; have f4_ := f1_.symm; have f5_ := f3_.symm; clear f1_ f2_ f3_; subst f4_; subst f5_))
                            obtain ⟨Ao100, co100, eo100⟩ := Kd.R_slice HO_238003.out
                            (first | subst eo100 | (injection eo100 with f1_ f2_ f3_; have f4_ := f1_.symm; have f5_ := f3_.symm; clear f1_ f2_ f3_; subst f4_; subst f5_))
                            obtain ⟨Ao101, co101, eo101⟩ := Kd.R_slice HO_238004.out
                            (first | subst eo101 | (injection eo101 with f1_ f2_ f3_; have f4_ := f1_.symm; have f5_ := f3_.symm; clear f1_ f2_ f3_; subst f4_; subst f5_))
                            obtain ⟨Ao102, co102, eo102⟩ := Kd.R_slice HO_250002.out
                            (first | subst eo102 | (injection eo102 with f1_ f2_ f3_; have f4_ := f1_.symm; have f5_ := f3_.symm; clear f1_ f2_ f3_; subst f4_; subst f5_))
                            obtain ⟨Ao103, co103, eo103⟩ := Kd.R_slice HO_250003.out
                            (first | subst eo103 | (injection eo103 with f1_ f2_ f3_; have f4_ := f1_.symm; have f5_ := f3_.symm; clear f1_ f2_ f3_; subst f4_; subst f5_))
                            obtain ⟨Ao104, co104, eo104⟩ := Kd.R_slice HO_250004.out
                            (first | subst eo104 | (injection eo104 with f1_ f2_ f3_; have f4_ := f1_.symm; have f5_ := f3_.symm; clear f1_ f2_ f3_; subst f4_; subst f5_))
                            refine start_ (n := 22) (S := fun w' => w'.cell? ⟨gb237, 0, none⟩ = some (.int .u8 t226) ∧ w'.cell? ⟨gb237, 1, none⟩ = some (.string t227) ∧ w'.cell? ⟨gb237, 2, none⟩ = some (.slice Ao99 x238002_2.length co99) ∧ w'.cell? ⟨gb237, 3, none⟩ = some (.slice Ao100 x238003_3.length co100) ∧ w'.cell? ⟨gb237, 4, none⟩ = some (.slice Ao101 x238004_4.length co101) ∧ w'.cell? ⟨gb249, 0, none⟩ = some (.int .u8 t238) ∧ w'.cell? ⟨gb249, 1, none⟩ = some (.string t239) ∧ w'.cell? ⟨gb249, 2, none⟩ = some (.slice Ao102 x250002_2.length co102) ∧ w'.cell? ⟨gb249, 3, none⟩ = some (.slice Ao103 x250003_3.length co103) ∧ w'.cell? ⟨gb249, 4, none⟩ = some (.slice Ao104 x250004_4.length co104) ∧ w'.cell? ⟨gb261, 0, none⟩ = some (.int .u8 t250) ∧ w'.cell? ⟨gb261, 1, none⟩ = some (.string t251) ∧ w'.cell? ⟨gb261, 2, none⟩ = some (.slice Ao62 x262002_2.length co62) ∧ w'.cell? ⟨gb261, 3, none⟩ = some (.slice Ao78 x262003_3.length co78) ∧ w'.cell? ⟨gb261, 4, none⟩ = some (.slice Ao97 x262004_4.length co97)) (ds := []) #[false, false, false, false, false, false, false, false, false, false, false, false, false, false, false, false, false, false, false, false, false, false] (by kernel_rfl) rfl rfl ⟨(blk_cell BK237.out 0).trans rfl, (blk_cell BK237.out 1).trans rfl, (blk_cell BK237.out 2).trans rfl, (blk_cell BK237.out 3).trans rfl, (blk_cell BK237.out 4).trans rfl, (blk_cell BK249.out 0).trans rfl, (blk_cell BK249.out 1).trans rfl, (blk_cell BK249.out 2).trans rfl, (blk_cell BK249.out 3).trans rfl, (blk_cell BK249.out 4).trans rfl, (blk_cell BK261.out 0).trans rfl, (blk_cell BK261.out 1).trans rfl, (blk_cell BK261.out 2).trans rfl, (blk_cell BK261.out 3).trans rfl, (blk_cell BK261.out 4).trans rfl⟩ (fun hHeld => ?_); refine with_tabW tipstafflaw09_ValueOwn.tab19 tipstafflaw09_ValueOwn.bits19 (fun HT_ HW_ => ?_)
                            generalize wr.drew = w98 at HO_238002 HO_238003 HO_238004 HO_250002 HO_250003 HO_250004 HO_262002 HO_262003 HO_262004 BK224 BK237 BK249 BK261 HB hHeld ⊢
                            refine take_ (i := 0) (N := some 80) (v := ?_) (a' := ?_) #[true, false, false, false, false, false, false, false, false, false, false, false, false, false, false, false, false, false, false, false, false, false] rfl rfl (take_ofW HT_.out HW_.out (by kernel_rfl)) (fun _ _ _ h => h) (Or.inl ⟨by rfl, ?_⟩) hHeld ?_ ?_
                            rotate_left
                            · rintro w' ⟨s0, s1, s2, s3, s4, s5, s6, s7, s8, s9, s10, s11, s12, s13, s14⟩
                              go_simp
                              with_reducible rfl
                            rotate_left
                            · simp only [Act.put, List.setIfInBounds_toArray, List.set_cons_zero, List.set_cons_succ, i64_w, i32_w]
                              rfl
                            refine take_ (i := 1) (N := some 81) (v := ?_) (a' := ?_) #[true, true, false, false, false, false, false, false, false, false, false, false, false, false, false, false, false, false, false, false, false, false] rfl rfl (take_ofW HT_.out HW_.out (by kernel_rfl)) (fun _ _ _ h => h) (Or.inl ⟨by rfl, ?_⟩) hHeld ?_ ?_
                            rotate_left
                            · rintro w' ⟨s0, s1, s2, s3, s4, s5, s6, s7, s8, s9, s10, s11, s12, s13, s14⟩
                              go_simp
                              with_reducible rfl
                            rotate_left
                            · simp only [Act.put, List.setIfInBounds_toArray, List.set_cons_zero, List.set_cons_succ, i64_w, i32_w]
                              rfl
                            refine one_ (i := 2) (N := some 82) #[true, true, true, false, false, false, false, false, false, false, false, false, false, false, false, false, false, false, false, false, false, false] rfl rfl (one_of HT_.out (by kernel_rfl)) (by decide) (fun K hK => ?_)
                            refine goes_ Try.func23 (by kernel_rfl) rfl #[.agg #[.int .u8 t226, .string t227, .slice Ao99 x238002_2.length co99, .slice Ao100 x238003_3.length co100, .slice Ao101 x238004_4.length co101], .agg #[.int .u8 t238, .string t239, .slice Ao102 x250002_2.length co102, .slice Ao103 x250003_3.length co103, .slice Ao104 x250004_4.length co104]] (by rfl) rfl rfl (by (try simp only [List.map_toArray, List.map_cons, List.map_nil]); first | done | rfl | (simp only [List.length_drop, List.length_take]; rfl)) ?_
                            with_reducible refine (value_Same.calls k4 t226 t227 _ _ x238002_2 _ _ x238003_3 _ _ x238004_4 t238 t239 _ _ x250002_2 _ _ x250003_3 _ _ x250004_4 true _ ?side1 ?side2 ?side3 ?side4 ?side5 ?side6 ?side7 ?side8 ?side9 ?side10 ?side11 ?side12 A90.out).mono ?_
                            (case side1 => repeat (first | exact (Kd.R_reads' HO_238002.out).2.2 | (with_reducible refine Kd.C_alloc ?_ _) | (with_reducible refine Kd.C_drewN ?_ _) | (with_reducible refine Kd.C_drew ?_)))
                            (case side2 => exact (Kd.R_reads' HO_238002.out).2.1)
                            (case side3 => repeat (first | exact (Kd.R_reads' HO_238003.out).2.2 | (with_reducible refine Kd.C_alloc ?_ _) | (with_reducible refine Kd.C_drewN ?_ _) | (with_reducible refine Kd.C_drew ?_)))
                            (case side4 => exact (Kd.R_reads' HO_238003.out).2.1)
                            (case side5 => repeat (first | exact (Kd.R_reads' HO_238004.out).2.2 | (with_reducible refine Kd.C_alloc ?_ _) | (with_reducible refine Kd.C_drewN ?_ _) | (with_reducible refine Kd.C_drew ?_)))
                            (case side6 => exact (Kd.R_reads' HO_238004.out).2.1)
                            (case side7 => repeat (first | exact (Kd.R_reads' HO_250002.out).2.2 | (with_reducible refine Kd.C_alloc ?_ _) | (with_reducible refine Kd.C_drewN ?_ _) | (with_reducible refine Kd.C_drew ?_)))
                            (case side8 => exact (Kd.R_reads' HO_250002.out).2.1)
                            (case side9 => repeat (first | exact (Kd.R_reads' HO_250003.out).2.2 | (with_reducible refine Kd.C_alloc ?_ _) | (with_reducible refine Kd.C_drewN ?_ _) | (with_reducible refine Kd.C_drew ?_)))
                            (case side10 => exact (Kd.R_reads' HO_250003.out).2.1)
                            (case side11 => repeat (first | exact (Kd.R_reads' HO_250004.out).2.2 | (with_reducible refine Kd.C_alloc ?_ _) | (with_reducible refine Kd.C_drewN ?_ _) | (with_reducible refine Kd.C_drew ?_)))
                            (case side12 => exact (Kd.R_reads' HO_250004.out).2.1)
                            rintro e w105 ⟨rfl, hb⟩
                            refine ⟨_, rfl, ?_⟩
                            have n0_ := Aside0.mk (Kd.R_below (by (with_reducible repeat (first | apply Kd.R_alloc | apply Kd.R_drewN | apply Kd.R_drew)); exact HO_238002.out) hb)
                            have n1_ := Aside0.mk (Kd.R_below (by (with_reducible repeat (first | apply Kd.R_alloc | apply Kd.R_drewN | apply Kd.R_drew)); exact HO_238003.out) hb)
                            have n2_ := Aside0.mk (Kd.R_below (by (with_reducible repeat (first | apply Kd.R_alloc | apply Kd.R_drewN | apply Kd.R_drew)); exact HO_238004.out) hb)
                            have n3_ := Aside0.mk (Kd.R_below (by (with_reducible repeat (first | apply Kd.R_alloc | apply Kd.R_drewN | apply Kd.R_drew)); exact HO_250002.out) hb)
                            have n4_ := Aside0.mk (Kd.R_below (by (with_reducible repeat (first | apply Kd.R_alloc | apply Kd.R_drewN | apply Kd.R_drew)); exact HO_250003.out) hb)
                            have n5_ := Aside0.mk (Kd.R_below (by (with_reducible repeat (first | apply Kd.R_alloc | apply Kd.R_drewN | apply Kd.R_drew)); exact HO_250004.out) hb)
                            have n6_ := Aside0.mk (Kd.R_below (by (with_reducible repeat (first | apply Kd.R_alloc | apply Kd.R_drewN | apply Kd.R_drew)); exact HO_262002.out) hb)
                            have n7_ := Aside0.mk (Kd.R_below (by (with_reducible repeat (first | apply Kd.R_alloc | apply Kd.R_drewN | apply Kd.R_drew)); exact HO_262003.out) hb)
                            have n8_ := Aside0.mk (Kd.R_below (by (with_reducible repeat (first | apply Kd.R_alloc | apply Kd.R_drewN | apply Kd.R_drew)); exact HO_262004.out) hb)
                            have n9_ := Aside0.mk (blk_below (g := gb224) (o := .cells #[.int .u8 a0_0, .string a0_1, .slice A0_2 l0_2.length c0_2, .slice A0_3 l0_3.length c0_3, .slice A0_4 l0_4.length c0_4] 26 (0, 0)) (by (with_reducible repeat (first | refine blk_drewN ?_ _ | refine blk_drew ?_ | refine blk_alloc ?_ _)); exact BK224.out) hb)
                            have n10_ := Aside0.mk (blk_below (g := gb237) (o := .cells #[.int .u8 t226, .string t227, .slice Ao99 x238002_2.length co99, .slice Ao100 x238003_3.length co100, .slice Ao101 x238004_4.length co101] 26 (0, 0)) (by (with_reducible repeat (first | refine blk_drewN ?_ _ | refine blk_drew ?_ | refine blk_alloc ?_ _)); exact BK237.out) hb)
                            have n11_ := Aside0.mk (blk_below (g := gb249) (o := .cells #[.int .u8 t238, .string t239, .slice Ao102 x250002_2.length co102, .slice Ao103 x250003_3.length co103, .slice Ao104 x250004_4.length co104] 26 (0, 0)) (by (with_reducible repeat (first | refine blk_drewN ?_ _ | refine blk_drew ?_ | refine blk_alloc ?_ _)); exact BK249.out) hb)
                            have n12_ := Aside0.mk (blk_below (g := gb261) (o := .cells #[.int .u8 t250, .string t251, .slice Ao62 x262002_2.length co62, .slice Ao78 x262003_3.length co78, .slice Ao97 x262004_4.length co97] 26 (0, 0)) (by (with_reducible repeat (first | refine blk_drewN ?_ _ | refine blk_drew ?_ | refine blk_alloc ?_ _)); exact BK261.out) hb)
                            have n13_ := Aside0.mk (below_step (by repeat (first | (with_reducible first | exact HB.out | apply below_alloc | apply pw_below_drewN | apply below_drew1 | refine below_set ?_ GE224.out | refine below_set ?_ GE237.out | refine below_set ?_ GE249.out | refine below_set ?_ GE261.out) | exact HB.out)) hb)
                            clear HO_238002
                            clear HO_238003
                            clear HO_238004
                            clear HO_250002
                            clear HO_250003
                            clear HO_250004
                            clear HO_262002
                            clear HO_262003
                            clear HO_262004
                            clear BK224
                            clear BK237
                            clear BK249
                            clear BK261
                            clear HB
                            have HO_238002 := n0_
                            have HO_238003 := n1_
                            have HO_238004 := n2_
                            have HO_250002 := n3_
                            have HO_250003 := n4_
                            have HO_250004 := n5_
                            have HO_262002 := n6_
                            have HO_262003 := n7_
                            have HO_262004 := n8_
                            have BK224 := n9_
                            have BK237 := n10_
                            have BK249 := n11_
                            have BK261 := n12_
                            have HB := n13_
                            clear n0_ n1_ n2_ n3_ n4_ n5_ n6_ n7_ n8_ n9_ n10_ n11_ n12_ n13_
                            (try clear hb)
                            (try clear hb2)
                            (try clear hk)
                            (try clear hi)
                            refine hK.out _ _ ⟨(blk_cell BK237.out 0).trans rfl, (blk_cell BK237.out 1).trans rfl, (blk_cell BK237.out 2).trans rfl, (blk_cell BK237.out 3).trans rfl, (blk_cell BK237.out 4).trans rfl, (blk_cell BK249.out 0).trans rfl, (blk_cell BK249.out 1).trans rfl, (blk_cell BK249.out 2).trans rfl, (blk_cell BK249.out 3).trans rfl, (blk_cell BK249.out 4).trans rfl, (blk_cell BK261.out 0).trans rfl, (blk_cell BK261.out 1).trans rfl, (blk_cell BK261.out 2).trans rfl, (blk_cell BK261.out 3).trans rfl, (blk_cell BK261.out 4).trans rfl⟩ (fun hHeld => ?_)
                            clear hK K
                            refine norm_ (a' := ?_) ?_ ?_
                            rotate_left
                            · show Act.put _ (some 82) _ = _
                              simp only [Act.put, List.setIfInBounds_toArray, List.set_cons_zero, List.set_cons_succ, i64_w, i32_w]
                              rfl
                            refine pure_ (i := 3) (N := some 83) (v := ?_) (a' := ?_) #[true, true, true, true, false, false, false, false, false, false, false, false, false, false, false, false, false, false, false, false, false, false] rfl rfl (any_of HT_.out (by kernel_rfl)) (fun _ _ _ h => h) (Or.inl ⟨by rfl, ?_⟩) ?_ ?_
                            rotate_left
                            · intro w'
                              go_simp
                              with_reducible rfl
                            rotate_left
                            · simp only [Act.put, List.setIfInBounds_toArray, List.set_cons_zero, List.set_cons_succ, i64_w, i32_w]
                              rfl
                            refine pure_ (i := 7) (N := some 87) (v := ?_) (a' := ?_) #[true, true, true, true, false, false, false, true, false, false, false, false, false, false, false, false, false, false, false, false, false, false] rfl rfl (any_of HT_.out (by kernel_rfl)) (fun _ _ _ h => h) (Or.inl ⟨by rfl, ?_⟩) ?_ ?_
                            rotate_left
                            · intro w'
                              go_simp
                              with_reducible rfl
                            rotate_left
                            · simp only [Act.put, List.setIfInBounds_toArray, List.set_cons_zero, List.set_cons_succ, i64_w, i32_w]
                              rfl
                            refine pure_ (i := 10) (N := some 90) (v := ?_) (a' := ?_) #[true, true, true, true, false, false, false, true, false, false, true, false, false, false, false, false, false, false, false, false, false, false] rfl rfl (any_of HT_.out (by kernel_rfl)) (fun _ _ _ h => h) (Or.inl ⟨by rfl, ?_⟩) ?_ ?_
                            rotate_left
                            · intro w'
                              go_simp
                              with_reducible rfl
                            rotate_left
                            · simp only [Act.put, List.setIfInBounds_toArray, List.set_cons_zero, List.set_cons_succ, i64_w, i32_w]
                              rfl
                            refine pure_ (i := 14) (N := some 94) (v := ?_) (a' := ?_) #[true, true, true, true, false, false, false, true, false, false, true, false, false, false, true, false, false, false, false, false, false, false] rfl rfl (any_of HT_.out (by kernel_rfl)) (fun _ _ _ h => h) (Or.inl ⟨by rfl, ?_⟩) ?_ ?_
                            rotate_left
                            · intro w'
                              go_simp
                              with_reducible rfl
                            rotate_left
                            · simp only [Act.put, List.setIfInBounds_toArray, List.set_cons_zero, List.set_cons_succ, i64_w, i32_w]
                              rfl
                            refine take_ (i := 4) (N := some 84) (v := ?_) (a' := ?_) #[true, true, true, true, true, false, false, true, false, false, true, false, false, false, true, false, false, false, false, false, false, false] rfl rfl (take_ofW HT_.out HW_.out (by kernel_rfl)) (fun _ _ _ h => h) (Or.inl ⟨by rfl, ?_⟩) hHeld ?_ ?_
                            rotate_left
                            · rintro w' ⟨s0, s1, s2, s3, s4, s5, s6, s7, s8, s9, s10, s11, s12, s13, s14⟩
                              go_simp
                              with_reducible rfl
                            rotate_left
                            · simp only [Act.put, List.setIfInBounds_toArray, List.set_cons_zero, List.set_cons_succ, i64_w, i32_w]
                              rfl
                            refine take_ (i := 5) (N := some 85) (v := ?_) (a' := ?_) #[true, true, true, true, true, true, false, true, false, false, true, false, false, false, true, false, false, false, false, false, false, false] rfl rfl (take_ofW HT_.out HW_.out (by kernel_rfl)) (fun _ _ _ h => h) (Or.inl ⟨by rfl, ?_⟩) hHeld ?_ ?_
                            rotate_left
                            · rintro w' ⟨s0, s1, s2, s3, s4, s5, s6, s7, s8, s9, s10, s11, s12, s13, s14⟩
                              go_simp
                              with_reducible rfl
                            rotate_left
                            · simp only [Act.put, List.setIfInBounds_toArray, List.set_cons_zero, List.set_cons_succ, i64_w, i32_w]
                              rfl
                            refine take_ (i := 8) (N := some 88) (v := ?_) (a' := ?_) #[true, true, true, true, true, true, false, true, true, false, true, false, false, false, true, false, false, false, false, false, false, false] rfl rfl (take_ofW HT_.out HW_.out (by kernel_rfl)) (fun _ _ _ h => h) (Or.inl ⟨by rfl, ?_⟩) hHeld ?_ ?_
                            rotate_left
                            · rintro w' ⟨s0, s1, s2, s3, s4, s5, s6, s7, s8, s9, s10, s11, s12, s13, s14⟩
                              go_simp
                              with_reducible rfl
                            rotate_left
                            · simp only [Act.put, List.setIfInBounds_toArray, List.set_cons_zero, List.set_cons_succ, i64_w, i32_w]
                              rfl
                            refine pure_ (i := 9) (N := some 89) (v := ?_) (a' := ?_) #[true, true, true, true, true, true, false, true, true, true, true, false, false, false, true, false, false, false, false, false, false, false] rfl rfl (any_of HT_.out (by kernel_rfl)) (fun _ _ _ h => h) (Or.inl ⟨by rfl, ?_⟩) ?_ ?_
                            rotate_left
                            · intro w'
                              go_simp
                              with_reducible rfl
                            rotate_left
                            · simp only [Act.put, List.setIfInBounds_toArray, List.set_cons_zero, List.set_cons_succ, i64_w, i32_w]
                              rfl
                            refine take_ (i := 11) (N := some 91) (v := ?_) (a' := ?_) #[true, true, true, true, true, true, false, true, true, true, true, true, false, false, true, false, false, false, false, false, false, false] rfl rfl (take_ofW HT_.out HW_.out (by kernel_rfl)) (fun _ _ _ h => h) (Or.inl ⟨by rfl, ?_⟩) hHeld ?_ ?_
                            rotate_left
                            · rintro w' ⟨s0, s1, s2, s3, s4, s5, s6, s7, s8, s9, s10, s11, s12, s13, s14⟩
                              go_simp
                              with_reducible rfl
                            rotate_left
                            · simp only [Act.put, List.setIfInBounds_toArray, List.set_cons_zero, List.set_cons_succ, i64_w, i32_w]
                              rfl
                            refine pure_ (i := 12) (N := some 92) (v := ?_) (a' := ?_) #[true, true, true, true, true, true, false, true, true, true, true, true, true, false, true, false, false, false, false, false, false, false] rfl rfl (any_of HT_.out (by kernel_rfl)) (fun _ _ _ h => h) (Or.inl ⟨by rfl, ?_⟩) ?_ ?_
                            rotate_left
                            · intro w'
                              go_simp
                              with_reducible rfl
                            rotate_left
                            · simp only [Act.put, List.setIfInBounds_toArray, List.set_cons_zero, List.set_cons_succ, i64_w, i32_w]
                              rfl
                            refine pure_ (i := 13) (N := some 93) (v := ?_) (a' := ?_) #[true, true, true, true, true, true, false, true, true, true, true, true, true, true, true, false, false, false, false, false, false, false] rfl rfl (any_of HT_.out (by kernel_rfl)) (fun _ _ _ h => h) (Or.inl ⟨by rfl, ?_⟩) ?_ ?_
                            rotate_left
                            · intro w'
                              go_simp
                              with_reducible rfl
                            rotate_left
                            · simp only [Act.put, List.setIfInBounds_toArray, List.set_cons_zero, List.set_cons_succ, i64_w, i32_w]
                              rfl
                            refine take_ (i := 15) (N := some 95) (v := ?_) (a' := ?_) #[true, true, true, true, true, true, false, true, true, true, true, true, true, true, true, true, false, false, false, false, false, false] rfl rfl (take_ofW HT_.out HW_.out (by kernel_rfl)) (fun _ _ _ h => h) (Or.inl ⟨by rfl, ?_⟩) hHeld ?_ ?_
                            rotate_left
                            · rintro w' ⟨s0, s1, s2, s3, s4, s5, s6, s7, s8, s9, s10, s11, s12, s13, s14⟩
                              go_simp
                              with_reducible rfl
                            rotate_left
                            · simp only [Act.put, List.setIfInBounds_toArray, List.set_cons_zero, List.set_cons_succ, i64_w, i32_w]
                              rfl
                            refine pure_ (i := 16) (N := some 96) (v := ?_) (a' := ?_) #[true, true, true, true, true, true, false, true, true, true, true, true, true, true, true, true, true, false, false, false, false, false] rfl rfl (any_of HT_.out (by kernel_rfl)) (fun _ _ _ h => h) (Or.inl ⟨by rfl, ?_⟩) ?_ ?_
                            rotate_left
                            · intro w'
                              go_simp
                              with_reducible rfl
                            rotate_left
                            · simp only [Act.put, List.setIfInBounds_toArray, List.set_cons_zero, List.set_cons_succ, i64_w, i32_w]
                              rfl
                            refine pure_ (i := 17) (N := some 97) (v := ?_) (a' := ?_) #[true, true, true, true, true, true, false, true, true, true, true, true, true, true, true, true, true, true, false, false, false, false] rfl rfl (any_of HT_.out (by kernel_rfl)) (fun _ _ _ h => h) (Or.inl ⟨by rfl, ?_⟩) ?_ ?_
                            rotate_left
                            · intro w'
                              go_simp
                              with_reducible rfl
                            rotate_left
                            · simp only [Act.put, List.setIfInBounds_toArray, List.set_cons_zero, List.set_cons_succ, i64_w, i32_w]
                              rfl
                            refine pure_ (i := 18) (N := some 98) (v := ?_) (a' := ?_) #[true, true, true, true, true, true, false, true, true, true, true, true, true, true, true, true, true, true, true, false, false, false] rfl rfl (any_of HT_.out (by kernel_rfl)) (fun _ _ _ h => h) (Or.inl ⟨by rfl, ?_⟩) ?_ ?_
                            rotate_left
                            · intro w'
                              go_simp
                              with_reducible rfl
                            rotate_left
                            · simp only [Act.put, List.setIfInBounds_toArray, List.set_cons_zero, List.set_cons_succ, i64_w, i32_w]
                              rfl
                            refine one_ (i := 6) (N := some 86) #[true, true, true, true, true, true, true, true, true, true, true, true, true, true, true, true, true, true, true, false, false, false] rfl rfl (one_of HT_.out (by kernel_rfl)) (by decide) (fun K hK => ?_)
                            refine goes_ Try.func23 (by kernel_rfl) rfl #[.agg #[.int .u8 t250, .string t251, .slice Ao62 x262002_2.length co62, .slice Ao78 x262003_3.length co78, .slice Ao97 x262004_4.length co97], .agg #[.int .u8 t226, .string t227, .slice Ao99 x238002_2.length co99, .slice Ao100 x238003_3.length co100, .slice Ao101 x238004_4.length co101]] (by rfl) rfl rfl (by (try simp only [List.map_toArray, List.map_cons, List.map_nil]); first | done | rfl | (simp only [List.length_drop, List.length_take]; rfl)) ?_
                            with_reducible refine (value_Same.calls k4 t250 t251 _ _ x262002_2 _ _ x262003_3 _ _ x262004_4 t226 t227 _ _ x238002_2 _ _ x238003_3 _ _ x238004_4 t270 _ ?side1 ?side2 ?side3 ?side4 ?side5 ?side6 ?side7 ?side8 ?side9 ?side10 ?side11 ?side12 A92.out).mono ?_
                            (case side1 => repeat (first | exact (Kd.R_reads' HO_262002.out).2.2 | (with_reducible refine Kd.C_alloc ?_ _) | (with_reducible refine Kd.C_drewN ?_ _) | (with_reducible refine Kd.C_drew ?_)))
                            (case side2 => exact (Kd.R_reads' HO_262002.out).2.1)
                            (case side3 => repeat (first | exact (Kd.R_reads' HO_262003.out).2.2 | (with_reducible refine Kd.C_alloc ?_ _) | (with_reducible refine Kd.C_drewN ?_ _) | (with_reducible refine Kd.C_drew ?_)))
                            (case side4 => exact (Kd.R_reads' HO_262003.out).2.1)
                            (case side5 => repeat (first | exact (Kd.R_reads' HO_262004.out).2.2 | (with_reducible refine Kd.C_alloc ?_ _) | (with_reducible refine Kd.C_drewN ?_ _) | (with_reducible refine Kd.C_drew ?_)))
                            (case side6 => exact (Kd.R_reads' HO_262004.out).2.1)
                            (case side7 => repeat (first | exact (Kd.R_reads' HO_238002.out).2.2 | (with_reducible refine Kd.C_alloc ?_ _) | (with_reducible refine Kd.C_drewN ?_ _) | (with_reducible refine Kd.C_drew ?_)))
                            (case side8 => exact (Kd.R_reads' HO_238002.out).2.1)
                            (case side9 => repeat (first | exact (Kd.R_reads' HO_238003.out).2.2 | (with_reducible refine Kd.C_alloc ?_ _) | (with_reducible refine Kd.C_drewN ?_ _) | (with_reducible refine Kd.C_drew ?_)))
                            (case side10 => exact (Kd.R_reads' HO_238003.out).2.1)
                            (case side11 => repeat (first | exact (Kd.R_reads' HO_238004.out).2.2 | (with_reducible refine Kd.C_alloc ?_ _) | (with_reducible refine Kd.C_drewN ?_ _) | (with_reducible refine Kd.C_drew ?_)))
                            (case side12 => exact (Kd.R_reads' HO_238004.out).2.1)
                            rintro e w106 ⟨rfl, hb⟩
                            refine ⟨_, rfl, ?_⟩
                            have n0_ := Aside0.mk (Kd.R_below (by (with_reducible repeat (first | apply Kd.R_alloc | apply Kd.R_drewN | apply Kd.R_drew)); exact HO_238002.out) hb)
                            have n1_ := Aside0.mk (Kd.R_below (by (with_reducible repeat (first | apply Kd.R_alloc | apply Kd.R_drewN | apply Kd.R_drew)); exact HO_238003.out) hb)
                            have n2_ := Aside0.mk (Kd.R_below (by (with_reducible repeat (first | apply Kd.R_alloc | apply Kd.R_drewN | apply Kd.R_drew)); exact HO_238004.out) hb)
                            have n3_ := Aside0.mk (Kd.R_below (by (with_reducible repeat (first | apply Kd.R_alloc | apply Kd.R_drewN | apply Kd.R_drew)); exact HO_250002.out) hb)
                            have n4_ := Aside0.mk (Kd.R_below (by (with_reducible repeat (first | apply Kd.R_alloc | apply Kd.R_drewN | apply Kd.R_drew)); exact HO_250003.out) hb)
                            have n5_ := Aside0.mk (Kd.R_below (by (with_reducible repeat (first | apply Kd.R_alloc | apply Kd.R_drewN | apply Kd.R_drew)); exact HO_250004.out) hb)
                            have n6_ := Aside0.mk (Kd.R_below (by (with_reducible repeat (first | apply Kd.R_alloc | apply Kd.R_drewN | apply Kd.R_drew)); exact HO_262002.out) hb)
                            have n7_ := Aside0.mk (Kd.R_below (by (with_reducible repeat (first | apply Kd.R_alloc | apply Kd.R_drewN | apply Kd.R_drew)); exact HO_262003.out) hb)
                            have n8_ := Aside0.mk (Kd.R_below (by (with_reducible repeat (first | apply Kd.R_alloc | apply Kd.R_drewN | apply Kd.R_drew)); exact HO_262004.out) hb)
                            have n9_ := Aside0.mk (blk_below (g := gb224) (o := .cells #[.int .u8 a0_0, .string a0_1, .slice A0_2 l0_2.length c0_2, .slice A0_3 l0_3.length c0_3, .slice A0_4 l0_4.length c0_4] 26 (0, 0)) (by (with_reducible repeat (first | refine blk_drewN ?_ _ | refine blk_drew ?_ | refine blk_alloc ?_ _)); exact BK224.out) hb)
                            have n10_ := Aside0.mk (blk_below (g := gb237) (o := .cells #[.int .u8 t226, .string t227, .slice Ao99 x238002_2.length co99, .slice Ao100 x238003_3.length co100, .slice Ao101 x238004_4.length co101] 26 (0, 0)) (by (with_reducible repeat (first | refine blk_drewN ?_ _ | refine blk_drew ?_ | refine blk_alloc ?_ _)); exact BK237.out) hb)
                            have n11_ := Aside0.mk (blk_below (g := gb249) (o := .cells #[.int .u8 t238, .string t239, .slice Ao102 x250002_2.length co102, .slice Ao103 x250003_3.length co103, .slice Ao104 x250004_4.length co104] 26 (0, 0)) (by (with_reducible repeat (first | refine blk_drewN ?_ _ | refine blk_drew ?_ | refine blk_alloc ?_ _)); exact BK249.out) hb)
                            have n12_ := Aside0.mk (blk_below (g := gb261) (o := .cells #[.int .u8 t250, .string t251, .slice Ao62 x262002_2.length co62, .slice Ao78 x262003_3.length co78, .slice Ao97 x262004_4.length co97] 26 (0, 0)) (by (with_reducible repeat (first | refine blk_drewN ?_ _ | refine blk_drew ?_ | refine blk_alloc ?_ _)); exact BK261.out) hb)
                            have n13_ := Aside0.mk (below_step (by repeat (first | (with_reducible first | exact HB.out | apply below_alloc | apply pw_below_drewN | apply below_drew1 | refine below_set ?_ GE224.out | refine below_set ?_ GE237.out | refine below_set ?_ GE249.out | refine below_set ?_ GE261.out) | exact HB.out)) hb)
                            clear HO_238002
                            clear HO_238003
                            clear HO_238004
                            clear HO_250002
                            clear HO_250003
                            clear HO_250004
                            clear HO_262002
                            clear HO_262003
                            clear HO_262004
                            clear BK224
                            clear BK237
                            clear BK249
                            clear BK261
                            clear HB
                            have HO_238002 := n0_
                            have HO_238003 := n1_
                            have HO_238004 := n2_
                            have HO_250002 := n3_
                            have HO_250003 := n4_
                            have HO_250004 := n5_
                            have HO_262002 := n6_
                            have HO_262003 := n7_
                            have HO_262004 := n8_
                            have BK224 := n9_
                            have BK237 := n10_
                            have BK249 := n11_
                            have BK261 := n12_
                            have HB := n13_
                            clear n0_ n1_ n2_ n3_ n4_ n5_ n6_ n7_ n8_ n9_ n10_ n11_ n12_ n13_
                            (try clear hb)
                            (try clear hb2)
                            (try clear hk)
                            (try clear hi)
                            refine hK.out _ _ ⟨(blk_cell BK237.out 0).trans rfl, (blk_cell BK237.out 1).trans rfl, (blk_cell BK237.out 2).trans rfl, (blk_cell BK237.out 3).trans rfl, (blk_cell BK237.out 4).trans rfl, (blk_cell BK249.out 0).trans rfl, (blk_cell BK249.out 1).trans rfl, (blk_cell BK249.out 2).trans rfl, (blk_cell BK249.out 3).trans rfl, (blk_cell BK249.out 4).trans rfl, (blk_cell BK261.out 0).trans rfl, (blk_cell BK261.out 1).trans rfl, (blk_cell BK261.out 2).trans rfl, (blk_cell BK261.out 3).trans rfl, (blk_cell BK261.out 4).trans rfl⟩ (fun hHeld => ?_)
                            clear hK K
                            refine norm_ (a' := ?_) ?_ ?_
                            rotate_left
                            · show Act.put _ (some 86) _ = _
                              simp only [Act.put, List.setIfInBounds_toArray, List.set_cons_zero, List.set_cons_succ, i64_w, i32_w]
                              rfl
                            refine pure_ (i := 19) (N := some 99) (v := ?_) (a' := ?_) #[true, true, true, true, true, true, true, true, true, true, true, true, true, true, true, true, true, true, true, true, false, false] rfl rfl (any_of HT_.out (by kernel_rfl)) (fun _ _ _ h => h) (Or.inl ⟨by rfl, ?_⟩) ?_ ?_
                            rotate_left
                            · intro w'
                              go_simp
                              with_reducible rfl
                            rotate_left
                            · simp only [Act.put, List.setIfInBounds_toArray, List.set_cons_zero, List.set_cons_succ, i64_w, i32_w]
                              rfl
                            refine pure_ (i := 20) (N := some 100) (v := ?_) (a' := ?_) #[true, true, true, true, true, true, true, true, true, true, true, true, true, true, true, true, true, true, true, true, true, false] rfl rfl (any_of HT_.out (by kernel_rfl)) (fun _ _ _ h => h) (Or.inl ⟨by rfl, ?_⟩) ?_ ?_
                            rotate_left
                            · intro w'
                              go_simp
                              with_reducible rfl
                            rotate_left
                            · simp only [Act.put, List.setIfInBounds_toArray, List.set_cons_zero, List.set_cons_succ, i64_w, i32_w]
                              rfl
                            refine pure_ (i := 21) (N := some 2) (v := ?_) (a' := ?_) #[true, true, true, true, true, true, true, true, true, true, true, true, true, true, true, true, true, true, true, true, true, true] rfl rfl (any_of HT_.out (by kernel_rfl)) (fun _ _ _ h => h) (Or.inl ⟨by rfl, ?_⟩) ?_ ?_
                            rotate_left
                            · intro w'
                              go_simp
                              with_reducible rfl
                            rotate_left
                            · simp only [Act.put, List.setIfInBounds_toArray, List.set_cons_zero, List.set_cons_succ, i64_w, i32_w]
                              rfl
                            refine done_ (done_of HT_.out (by kernel_rfl)) ?_
                            try go_wp2
                            all_goals go_ret
                            all_goals exact ⟨by first | rfl | (simp [errW_none, errW_some] <;> rfl) | (simp [*, errW_none, errW_some] <;> rfl), by repeat (first | (with_reducible first | exact HB.out | apply below_alloc | apply pw_below_drewN | apply below_drew1 | refine below_set ?_ GE224.out | refine below_set ?_ GE237.out | refine below_set ?_ GE249.out | refine below_set ?_ GE261.out) | exact HB.out)⟩
                          · replace c91 := Bool.eq_false_iff.mpr c91
                            subst c91
                            have H1 : (some false) = some r := by rw [if_neg (show ¬ (false = true) by decide)] at H; exact H
                            clear H
                            have H := H1
                            clear H1
                            obtain rfl := Option.some.inj H
                            have hnb107 := NB261_224.out
                            have hnc107 := NB224_261.out
                            have hnb108 := NB261_237.out
                            have hnc108 := NB237_261.out
                            have hnb109 := NB261_249.out
                            have hnc109 := NB249_261.out
                            have hcz110_0 : wr.cell? ⟨gb261, 0, none⟩ = some (.int .u8 t250) := (blk_cell BK261.out 0).trans rfl
                            have hcz110_1 : wr.cell? ⟨gb261, 1, none⟩ = some (.string t251) := (blk_cell BK261.out 1).trans rfl
                            have hcz110_2 : wr.cell? ⟨gb261, 2, none⟩ = some (.slice Ao62 x262002_2.length co62) := (blk_cell BK261.out 2).trans rfl
                            have hcz110_3 : wr.cell? ⟨gb261, 3, none⟩ = some (.slice Ao78 x262003_3.length co78) := (blk_cell BK261.out 3).trans rfl
                            have hcz110_4 : wr.cell? ⟨gb261, 4, none⟩ = some (u262004) := (blk_cell BK261.out 4).trans rfl
                            have hfz110_0 := blk_frozen BK261.out 0
                            have hfz110_1 := blk_frozen BK261.out 1
                            have hfz110_2 := blk_frozen BK261.out 2
                            have hfz110_3 := blk_frozen BK261.out 3
                            have hfz110_4 := blk_frozen BK261.out 4
                            obtain ⟨Ao111, co111, eo111⟩ := Kd.R_slice HO_262004.out
                            subst eo111
                            try go_wp2
                            have n0_ := Aside0.mk (Kd.R_drew HO_238002.out)
                            have n1_ := Aside0.mk (Kd.R_drew HO_238003.out)
                            have n2_ := Aside0.mk (Kd.R_drew HO_238004.out)
                            have n3_ := Aside0.mk (Kd.R_drew HO_250002.out)
                            have n4_ := Aside0.mk (Kd.R_drew HO_250003.out)
                            have n5_ := Aside0.mk (Kd.R_drew HO_250004.out)
                            have n6_ := Aside0.mk (Kd.R_drew HO_262002.out)
                            have n7_ := Aside0.mk (Kd.R_drew HO_262003.out)
                            have n8_ := Aside0.mk (Kd.R_drew HO_262004.out)
                            have n9_ := Aside0.mk (blk_drew BK224.out)
                            have n10_ := Aside0.mk (blk_drew BK237.out)
                            have n11_ := Aside0.mk (blk_drew BK249.out)
                            have n12_ := Aside0.mk (blk_drew BK261.out)
                            have n13_ := Aside0.mk (below_drew1 HB.out)
                            clear HO_238002
                            clear HO_238003
                            clear HO_238004
                            clear HO_250002
                            clear HO_250003
                            clear HO_250004
                            clear HO_262002
                            clear HO_262003
                            clear HO_262004
                            clear BK224
                            clear BK237
                            clear BK249
                            clear BK261
                            clear HB
                            have HO_238002 := n0_
                            have HO_238003 := n1_
                            have HO_238004 := n2_
                            have HO_250002 := n3_
                            have HO_250003 := n4_
                            have HO_250004 := n5_
                            have HO_262002 := n6_
                            have HO_262003 := n7_
                            have HO_262004 := n8_
                            have BK224 := n9_
                            have BK237 := n10_
                            have BK249 := n11_
                            have BK261 := n12_
                            have HB := n13_
                            clear n0_ n1_ n2_ n3_ n4_ n5_ n6_ n7_ n8_ n9_ n10_ n11_ n12_ n13_
                            obtain ⟨Ao113, co113, eo113⟩ := Kd.R_slice HO_238002.out
                            (first | subst eo113 | (injection eo113 with f1_ f2_ f3_; have f4_ := f1_.symm; have f5_ := f3_.symm; clear f1_ f2_ f3_; subst f4_; subst f5_))
                            obtain ⟨Ao114, co114, eo114⟩ := Kd.R_slice HO_238003.out
                            (first | subst eo114 | (injection eo114 with f1_ f2_ f3_; have f4_ := f1_.symm; have f5_ := f3_.symm; clear f1_ f2_ f3_; subst f4_; subst f5_))
                            obtain ⟨Ao115, co115, eo115⟩ := Kd.R_slice HO_238004.out
                            (first | subst eo115 | (injection eo115 with f1_ f2_ f3_; have f4_ := f1_.symm; have f5_ := f3_.symm; clear f1_ f2_ f3_; subst f4_; subst f5_))
                            obtain ⟨Ao116, co116, eo116⟩ := Kd.R_slice HO_250002.out
                            (first | subst eo116 | (injection eo116 with f1_ f2_ f3_; have f4_ := f1_.symm; have f5_ := f3_.symm; clear f1_ f2_ f3_; subst f4_; subst f5_))
                            obtain ⟨Ao117, co117, eo117⟩ := Kd.R_slice HO_250003.out
                            (first | subst eo117 | (injection eo117 with f1_ f2_ f3_; have f4_ := f1_.symm; have f5_ := f3_.symm; clear f1_ f2_ f3_; subst f4_; subst f5_))
                            obtain ⟨Ao118, co118, eo118⟩ := Kd.R_slice HO_250004.out
                            (first | subst eo118 | (injection eo118 with f1_ f2_ f3_; have f4_ := f1_.symm; have f5_ := f3_.symm; clear f1_ f2_ f3_; subst f4_; subst f5_))
                            refine start_ (n := 22) (S := fun w' => w'.cell? ⟨gb237, 0, none⟩ = some (.int .u8 t226) ∧ w'.cell? ⟨gb237, 1, none⟩ = some (.string t227) ∧ w'.cell? ⟨gb237, 2, none⟩ = some (.slice Ao113 x238002_2.length co113) ∧ w'.cell? ⟨gb237, 3, none⟩ = some (.slice Ao114 x238003_3.length co114) ∧ w'.cell? ⟨gb237, 4, none⟩ = some (.slice Ao115 x238004_4.length co115) ∧ w'.cell? ⟨gb249, 0, none⟩ = some (.int .u8 t238) ∧ w'.cell? ⟨gb249, 1, none⟩ = some (.string t239) ∧ w'.cell? ⟨gb249, 2, none⟩ = some (.slice Ao116 x250002_2.length co116) ∧ w'.cell? ⟨gb249, 3, none⟩ = some (.slice Ao117 x250003_3.length co117) ∧ w'.cell? ⟨gb249, 4, none⟩ = some (.slice Ao118 x250004_4.length co118)) (ds := []) #[false, false, false, false, false, false, false, false, false, false, false, false, false, false, false, false, false, false, false, false, false, false] (by kernel_rfl) rfl rfl ⟨(blk_cell BK237.out 0).trans rfl, (blk_cell BK237.out 1).trans rfl, (blk_cell BK237.out 2).trans rfl, (blk_cell BK237.out 3).trans rfl, (blk_cell BK237.out 4).trans rfl, (blk_cell BK249.out 0).trans rfl, (blk_cell BK249.out 1).trans rfl, (blk_cell BK249.out 2).trans rfl, (blk_cell BK249.out 3).trans rfl, (blk_cell BK249.out 4).trans rfl⟩ (fun hHeld => ?_); refine with_tabW tipstafflaw09_ValueOwn.tab19 tipstafflaw09_ValueOwn.bits19 (fun HT_ HW_ => ?_)
                            generalize wr.drew = w112 at HO_238002 HO_238003 HO_238004 HO_250002 HO_250003 HO_250004 HO_262002 HO_262003 HO_262004 BK224 BK237 BK249 BK261 HB hHeld ⊢
                            refine take_ (i := 0) (N := some 80) (v := ?_) (a' := ?_) #[true, false, false, false, false, false, false, false, false, false, false, false, false, false, false, false, false, false, false, false, false, false] rfl rfl (take_ofW HT_.out HW_.out (by kernel_rfl)) (fun _ _ _ h => h) (Or.inl ⟨by rfl, ?_⟩) hHeld ?_ ?_
                            rotate_left
                            · rintro w' ⟨s0, s1, s2, s3, s4, s5, s6, s7, s8, s9⟩
                              go_simp
                              with_reducible rfl
                            rotate_left
                            · simp only [Act.put, List.setIfInBounds_toArray, List.set_cons_zero, List.set_cons_succ, i64_w, i32_w]
                              rfl
                            refine take_ (i := 1) (N := some 81) (v := ?_) (a' := ?_) #[true, true, false, false, false, false, false, false, false, false, false, false, false, false, false, false, false, false, false, false, false, false] rfl rfl (take_ofW HT_.out HW_.out (by kernel_rfl)) (fun _ _ _ h => h) (Or.inl ⟨by rfl, ?_⟩) hHeld ?_ ?_
                            rotate_left
                            · rintro w' ⟨s0, s1, s2, s3, s4, s5, s6, s7, s8, s9⟩
                              go_simp
                              with_reducible rfl
                            rotate_left
                            · simp only [Act.put, List.setIfInBounds_toArray, List.set_cons_zero, List.set_cons_succ, i64_w, i32_w]
                              rfl
                            refine one_ (i := 2) (N := some 82) #[true, true, true, false, false, false, false, false, false, false, false, false, false, false, false, false, false, false, false, false, false, false] rfl rfl (one_of HT_.out (by kernel_rfl)) (by decide) (fun K hK => ?_)
                            refine goes_ Try.func23 (by kernel_rfl) rfl #[.agg #[.int .u8 t226, .string t227, .slice Ao113 x238002_2.length co113, .slice Ao114 x238003_3.length co114, .slice Ao115 x238004_4.length co115], .agg #[.int .u8 t238, .string t239, .slice Ao116 x250002_2.length co116, .slice Ao117 x250003_3.length co117, .slice Ao118 x250004_4.length co118]] (by rfl) rfl rfl (by (try simp only [List.map_toArray, List.map_cons, List.map_nil]); first | done | rfl | (simp only [List.length_drop, List.length_take]; rfl)) ?_
                            with_reducible refine (value_Same.calls k4 t226 t227 _ _ x238002_2 _ _ x238003_3 _ _ x238004_4 t238 t239 _ _ x250002_2 _ _ x250003_3 _ _ x250004_4 false _ ?side1 ?side2 ?side3 ?side4 ?side5 ?side6 ?side7 ?side8 ?side9 ?side10 ?side11 ?side12 A90.out).mono ?_
                            (case side1 => repeat (first | exact (Kd.R_reads' HO_238002.out).2.2 | (with_reducible refine Kd.C_alloc ?_ _) | (with_reducible refine Kd.C_drewN ?_ _) | (with_reducible refine Kd.C_drew ?_)))
                            (case side2 => exact (Kd.R_reads' HO_238002.out).2.1)
                            (case side3 => repeat (first | exact (Kd.R_reads' HO_238003.out).2.2 | (with_reducible refine Kd.C_alloc ?_ _) | (with_reducible refine Kd.C_drewN ?_ _) | (with_reducible refine Kd.C_drew ?_)))
                            (case side4 => exact (Kd.R_reads' HO_238003.out).2.1)
                            (case side5 => repeat (first | exact (Kd.R_reads' HO_238004.out).2.2 | (with_reducible refine Kd.C_alloc ?_ _) | (with_reducible refine Kd.C_drewN ?_ _) | (with_reducible refine Kd.C_drew ?_)))
                            (case side6 => exact (Kd.R_reads' HO_238004.out).2.1)
                            (case side7 => repeat (first | exact (Kd.R_reads' HO_250002.out).2.2 | (with_reducible refine Kd.C_alloc ?_ _) | (with_reducible refine Kd.C_drewN ?_ _) | (with_reducible refine Kd.C_drew ?_)))
                            (case side8 => exact (Kd.R_reads' HO_250002.out).2.1)
                            (case side9 => repeat (first | exact (Kd.R_reads' HO_250003.out).2.2 | (with_reducible refine Kd.C_alloc ?_ _) | (with_reducible refine Kd.C_drewN ?_ _) | (with_reducible refine Kd.C_drew ?_)))
                            (case side10 => exact (Kd.R_reads' HO_250003.out).2.1)
                            (case side11 => repeat (first | exact (Kd.R_reads' HO_250004.out).2.2 | (with_reducible refine Kd.C_alloc ?_ _) | (with_reducible refine Kd.C_drewN ?_ _) | (with_reducible refine Kd.C_drew ?_)))
                            (case side12 => exact (Kd.R_reads' HO_250004.out).2.1)
                            rintro e w119 ⟨rfl, hb⟩
                            refine ⟨_, rfl, ?_⟩
                            have n0_ := Aside0.mk (Kd.R_below (by (with_reducible repeat (first | apply Kd.R_alloc | apply Kd.R_drewN | apply Kd.R_drew)); exact HO_238002.out) hb)
                            have n1_ := Aside0.mk (Kd.R_below (by (with_reducible repeat (first | apply Kd.R_alloc | apply Kd.R_drewN | apply Kd.R_drew)); exact HO_238003.out) hb)
                            have n2_ := Aside0.mk (Kd.R_below (by (with_reducible repeat (first | apply Kd.R_alloc | apply Kd.R_drewN | apply Kd.R_drew)); exact HO_238004.out) hb)
                            have n3_ := Aside0.mk (Kd.R_below (by (with_reducible repeat (first | apply Kd.R_alloc | apply Kd.R_drewN | apply Kd.R_drew)); exact HO_250002.out) hb)
                            have n4_ := Aside0.mk (Kd.R_below (by (with_reducible repeat (first | apply Kd.R_alloc | apply Kd.R_drewN | apply Kd.R_drew)); exact HO_250003.out) hb)
                            have n5_ := Aside0.mk (Kd.R_below (by (with_reducible repeat (first | apply Kd.R_alloc | apply Kd.R_drewN | apply Kd.R_drew)); exact HO_250004.out) hb)
                            have n6_ := Aside0.mk (Kd.R_below (by (with_reducible repeat (first | apply Kd.R_alloc | apply Kd.R_drewN | apply Kd.R_drew)); exact HO_262002.out) hb)
                            have n7_ := Aside0.mk (Kd.R_below (by (with_reducible repeat (first | apply Kd.R_alloc | apply Kd.R_drewN | apply Kd.R_drew)); exact HO_262003.out) hb)
                            have n8_ := Aside0.mk (Kd.R_below (by (with_reducible repeat (first | apply Kd.R_alloc | apply Kd.R_drewN | apply Kd.R_drew)); exact HO_262004.out) hb)
                            have n9_ := Aside0.mk (blk_below (g := gb224) (o := .cells #[.int .u8 a0_0, .string a0_1, .slice A0_2 l0_2.length c0_2, .slice A0_3 l0_3.length c0_3, .slice A0_4 l0_4.length c0_4] 26 (0, 0)) (by (with_reducible repeat (first | refine blk_drewN ?_ _ | refine blk_drew ?_ | refine blk_alloc ?_ _)); exact BK224.out) hb)
                            have n10_ := Aside0.mk (blk_below (g := gb237) (o := .cells #[.int .u8 t226, .string t227, .slice Ao113 x238002_2.length co113, .slice Ao114 x238003_3.length co114, .slice Ao115 x238004_4.length co115] 26 (0, 0)) (by (with_reducible repeat (first | refine blk_drewN ?_ _ | refine blk_drew ?_ | refine blk_alloc ?_ _)); exact BK237.out) hb)
                            have n11_ := Aside0.mk (blk_below (g := gb249) (o := .cells #[.int .u8 t238, .string t239, .slice Ao116 x250002_2.length co116, .slice Ao117 x250003_3.length co117, .slice Ao118 x250004_4.length co118] 26 (0, 0)) (by (with_reducible repeat (first | refine blk_drewN ?_ _ | refine blk_drew ?_ | refine blk_alloc ?_ _)); exact BK249.out) hb)
                            have n12_ := Aside0.mk (blk_below (g := gb261) (o := .cells #[.int .u8 t250, .string t251, .slice Ao62 x262002_2.length co62, .slice Ao78 x262003_3.length co78, .slice Ao111 x262004_4.length co111] 26 (0, 0)) (by (with_reducible repeat (first | refine blk_drewN ?_ _ | refine blk_drew ?_ | refine blk_alloc ?_ _)); exact BK261.out) hb)
                            have n13_ := Aside0.mk (below_step (by repeat (first | (with_reducible first | exact HB.out | apply below_alloc | apply pw_below_drewN | apply below_drew1 | refine below_set ?_ GE224.out | refine below_set ?_ GE237.out | refine below_set ?_ GE249.out | refine below_set ?_ GE261.out) | exact HB.out)) hb)
                            clear HO_238002
                            clear HO_238003
                            clear HO_238004
                            clear HO_250002
                            clear HO_250003
                            clear HO_250004
                            clear HO_262002
                            clear HO_262003
                            clear HO_262004
                            clear BK224
                            clear BK237
                            clear BK249
                            clear BK261
                            clear HB
                            have HO_238002 := n0_
                            have HO_238003 := n1_
                            have HO_238004 := n2_
                            have HO_250002 := n3_
                            have HO_250003 := n4_
                            have HO_250004 := n5_
                            have HO_262002 := n6_
                            have HO_262003 := n7_
                            have HO_262004 := n8_
                            have BK224 := n9_
                            have BK237 := n10_
                            have BK249 := n11_
                            have BK261 := n12_
                            have HB := n13_
                            clear n0_ n1_ n2_ n3_ n4_ n5_ n6_ n7_ n8_ n9_ n10_ n11_ n12_ n13_
                            (try clear hb)
                            (try clear hb2)
                            (try clear hk)
                            (try clear hi)
                            refine hK.out _ _ ⟨(blk_cell BK237.out 0).trans rfl, (blk_cell BK237.out 1).trans rfl, (blk_cell BK237.out 2).trans rfl, (blk_cell BK237.out 3).trans rfl, (blk_cell BK237.out 4).trans rfl, (blk_cell BK249.out 0).trans rfl, (blk_cell BK249.out 1).trans rfl, (blk_cell BK249.out 2).trans rfl, (blk_cell BK249.out 3).trans rfl, (blk_cell BK249.out 4).trans rfl⟩ (fun hHeld => ?_)
                            clear hK K
                            refine norm_ (a' := ?_) ?_ ?_
                            rotate_left
                            · show Act.put _ (some 82) _ = _
                              simp only [Act.put, List.setIfInBounds_toArray, List.set_cons_zero, List.set_cons_succ, i64_w, i32_w]
                              rfl
                            refine pure_ (i := 3) (N := some 83) (v := ?_) (a' := ?_) #[true, true, true, true, false, false, false, false, false, false, false, false, false, false, false, false, false, false, false, false, false, false] rfl rfl (any_of HT_.out (by kernel_rfl)) (fun _ _ _ h => h) (Or.inl ⟨by rfl, ?_⟩) ?_ ?_
                            rotate_left
                            · intro w'
                              go_simp
                              with_reducible rfl
                            rotate_left
                            · simp only [Act.put, List.setIfInBounds_toArray, List.set_cons_zero, List.set_cons_succ, i64_w, i32_w]
                              rfl
                            refine pure_ (i := 4) (N := some 84) (v := undef) (a' := ?_) #[true, true, true, true, true, false, false, false, false, false, false, false, false, false, false, false, false, false, false, false, false, false] rfl rfl (any_of HT_.out (by kernel_rfl)) (fun _ _ _ h => h) (Or.inr ⟨by rfl, rfl⟩) ?_ ?_
                            rotate_left
                            · simp only [Act.put, List.setIfInBounds_toArray, List.set_cons_zero, List.set_cons_succ, i64_w, i32_w]
                              rfl
                            refine pure_ (i := 5) (N := some 85) (v := undef) (a' := ?_) #[true, true, true, true, true, true, false, false, false, false, false, false, false, false, false, false, false, false, false, false, false, false] rfl rfl (any_of HT_.out (by kernel_rfl)) (fun _ _ _ h => h) (Or.inr ⟨by rfl, rfl⟩) ?_ ?_
                            rotate_left
                            · simp only [Act.put, List.setIfInBounds_toArray, List.set_cons_zero, List.set_cons_succ, i64_w, i32_w]
                              rfl
                            refine pure_ (i := 6) (N := some 86) (v := undef) (a' := ?_) #[true, true, true, true, true, true, true, false, false, false, false, false, false, false, false, false, false, false, false, false, false, false] rfl rfl (any_of HT_.out (by kernel_rfl)) (fun _ _ _ h => h) (Or.inr ⟨by rfl, rfl⟩) ?_ ?_
                            rotate_left
                            · simp only [Act.put, List.setIfInBounds_toArray, List.set_cons_zero, List.set_cons_succ, i64_w, i32_w]
                              rfl
                            refine pure_ (i := 7) (N := some 87) (v := undef) (a' := ?_) #[true, true, true, true, true, true, true, true, false, false, false, false, false, false, false, false, false, false, false, false, false, false] rfl rfl (any_of HT_.out (by kernel_rfl)) (fun _ _ _ h => h) (Or.inr ⟨by rfl, rfl⟩) ?_ ?_
                            rotate_left
                            · simp only [Act.put, List.setIfInBounds_toArray, List.set_cons_zero, List.set_cons_succ, i64_w, i32_w]
                              rfl
                            refine pure_ (i := 8) (N := some 88) (v := undef) (a' := ?_) #[true, true, true, true, true, true, true, true, true, false, false, false, false, false, false, false, false, false, false, false, false, false] rfl rfl (any_of HT_.out (by kernel_rfl)) (fun _ _ _ h => h) (Or.inr ⟨by rfl, rfl⟩) ?_ ?_
                            rotate_left
                            · simp only [Act.put, List.setIfInBounds_toArray, List.set_cons_zero, List.set_cons_succ, i64_w, i32_w]
                              rfl
                            refine pure_ (i := 9) (N := some 89) (v := undef) (a' := ?_) #[true, true, true, true, true, true, true, true, true, true, false, false, false, false, false, false, false, false, false, false, false, false] rfl rfl (any_of HT_.out (by kernel_rfl)) (fun _ _ _ h => h) (Or.inr ⟨by rfl, rfl⟩) ?_ ?_
                            rotate_left
                            · simp only [Act.put, List.setIfInBounds_toArray, List.set_cons_zero, List.set_cons_succ, i64_w, i32_w]
                              rfl
                            refine pure_ (i := 10) (N := some 90) (v := undef) (a' := ?_) #[true, true, true, true, true, true, true, true, true, true, true, false, false, false, false, false, false, false, false, false, false, false] rfl rfl (any_of HT_.out (by kernel_rfl)) (fun _ _ _ h => h) (Or.inr ⟨by rfl, rfl⟩) ?_ ?_
                            rotate_left
                            · simp only [Act.put, List.setIfInBounds_toArray, List.set_cons_zero, List.set_cons_succ, i64_w, i32_w]
                              rfl
                            refine pure_ (i := 11) (N := some 91) (v := undef) (a' := ?_) #[true, true, true, true, true, true, true, true, true, true, true, true, false, false, false, false, false, false, false, false, false, false] rfl rfl (any_of HT_.out (by kernel_rfl)) (fun _ _ _ h => h) (Or.inr ⟨by rfl, rfl⟩) ?_ ?_
                            rotate_left
                            · simp only [Act.put, List.setIfInBounds_toArray, List.set_cons_zero, List.set_cons_succ, i64_w, i32_w]
                              rfl
                            refine pure_ (i := 12) (N := some 92) (v := undef) (a' := ?_) #[true, true, true, true, true, true, true, true, true, true, true, true, true, false, false, false, false, false, false, false, false, false] rfl rfl (any_of HT_.out (by kernel_rfl)) (fun _ _ _ h => h) (Or.inr ⟨by rfl, rfl⟩) ?_ ?_
                            rotate_left
                            · simp only [Act.put, List.setIfInBounds_toArray, List.set_cons_zero, List.set_cons_succ, i64_w, i32_w]
                              rfl
                            refine pure_ (i := 13) (N := some 93) (v := undef) (a' := ?_) #[true, true, true, true, true, true, true, true, true, true, true, true, true, true, false, false, false, false, false, false, false, false] rfl rfl (any_of HT_.out (by kernel_rfl)) (fun _ _ _ h => h) (Or.inr ⟨by rfl, rfl⟩) ?_ ?_
                            rotate_left
                            · simp only [Act.put, List.setIfInBounds_toArray, List.set_cons_zero, List.set_cons_succ, i64_w, i32_w]
                              rfl
                            refine pure_ (i := 14) (N := some 94) (v := undef) (a' := ?_) #[true, true, true, true, true, true, true, true, true, true, true, true, true, true, true, false, false, false, false, false, false, false] rfl rfl (any_of HT_.out (by kernel_rfl)) (fun _ _ _ h => h) (Or.inr ⟨by rfl, rfl⟩) ?_ ?_
                            rotate_left
                            · simp only [Act.put, List.setIfInBounds_toArray, List.set_cons_zero, List.set_cons_succ, i64_w, i32_w]
                              rfl
                            refine pure_ (i := 15) (N := some 95) (v := undef) (a' := ?_) #[true, true, true, true, true, true, true, true, true, true, true, true, true, true, true, true, false, false, false, false, false, false] rfl rfl (any_of HT_.out (by kernel_rfl)) (fun _ _ _ h => h) (Or.inr ⟨by rfl, rfl⟩) ?_ ?_
                            rotate_left
                            · simp only [Act.put, List.setIfInBounds_toArray, List.set_cons_zero, List.set_cons_succ, i64_w, i32_w]
                              rfl
                            refine pure_ (i := 16) (N := some 96) (v := undef) (a' := ?_) #[true, true, true, true, true, true, true, true, true, true, true, true, true, true, true, true, true, false, false, false, false, false] rfl rfl (any_of HT_.out (by kernel_rfl)) (fun _ _ _ h => h) (Or.inr ⟨by rfl, rfl⟩) ?_ ?_
                            rotate_left
                            · simp only [Act.put, List.setIfInBounds_toArray, List.set_cons_zero, List.set_cons_succ, i64_w, i32_w]
                              rfl
                            refine pure_ (i := 17) (N := some 97) (v := undef) (a' := ?_) #[true, true, true, true, true, true, true, true, true, true, true, true, true, true, true, true, true, true, false, false, false, false] rfl rfl (any_of HT_.out (by kernel_rfl)) (fun _ _ _ h => h) (Or.inr ⟨by rfl, rfl⟩) ?_ ?_
                            rotate_left
                            · simp only [Act.put, List.setIfInBounds_toArray, List.set_cons_zero, List.set_cons_succ, i64_w, i32_w]
                              rfl
                            refine pure_ (i := 18) (N := some 98) (v := undef) (a' := ?_) #[true, true, true, true, true, true, true, true, true, true, true, true, true, true, true, true, true, true, true, false, false, false] rfl rfl (any_of HT_.out (by kernel_rfl)) (fun _ _ _ h => h) (Or.inr ⟨by rfl, rfl⟩) ?_ ?_
                            rotate_left
                            · simp only [Act.put, List.setIfInBounds_toArray, List.set_cons_zero, List.set_cons_succ, i64_w, i32_w]
                              rfl
                            refine pure_ (i := 19) (N := some 99) (v := undef) (a' := ?_) #[true, true, true, true, true, true, true, true, true, true, true, true, true, true, true, true, true, true, true, true, false, false] rfl rfl (any_of HT_.out (by kernel_rfl)) (fun _ _ _ h => h) (Or.inr ⟨by rfl, rfl⟩) ?_ ?_
                            rotate_left
                            · simp only [Act.put, List.setIfInBounds_toArray, List.set_cons_zero, List.set_cons_succ, i64_w, i32_w]
                              rfl
                            refine pure_ (i := 20) (N := some 100) (v := ?_) (a' := ?_) #[true, true, true, true, true, true, true, true, true, true, true, true, true, true, true, true, true, true, true, true, true, false] rfl rfl (any_of HT_.out (by kernel_rfl)) (fun _ _ _ h => h) (Or.inl ⟨by rfl, ?_⟩) ?_ ?_
                            rotate_left
                            · intro w'
                              go_simp
                              with_reducible rfl
                            rotate_left
                            · simp only [Act.put, List.setIfInBounds_toArray, List.set_cons_zero, List.set_cons_succ, i64_w, i32_w]
                              rfl
                            refine pure_ (i := 21) (N := some 2) (v := ?_) (a' := ?_) #[true, true, true, true, true, true, true, true, true, true, true, true, true, true, true, true, true, true, true, true, true, true] rfl rfl (any_of HT_.out (by kernel_rfl)) (fun _ _ _ h => h) (Or.inl ⟨by rfl, ?_⟩) ?_ ?_
                            rotate_left
                            · intro w'
                              go_simp
                              with_reducible rfl
                            rotate_left
                            · simp only [Act.put, List.setIfInBounds_toArray, List.set_cons_zero, List.set_cons_succ, i64_w, i32_w]
                              rfl
                            refine done_ (done_of HT_.out (by kernel_rfl)) ?_
                            try go_wp2
                            all_goals go_ret
                            all_goals exact ⟨by first | rfl | (simp [errW_none, errW_some] <;> rfl) | (simp [*, errW_none, errW_some] <;> rfl), by repeat (first | (with_reducible first | exact HB.out | apply below_alloc | apply pw_below_drewN | apply below_drew1 | refine below_set ?_ GE224.out | refine below_set ?_ GE237.out | refine below_set ?_ GE249.out | refine below_set ?_ GE261.out) | exact HB.out)⟩

end Go.Proofs.Ytbbgiedfkklojaa.X
