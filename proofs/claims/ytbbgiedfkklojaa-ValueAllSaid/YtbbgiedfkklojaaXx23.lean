-- Written by a program of the session (wip/xprint.py): the kit's printer, beside contracts of the session's own.
import Derived.Test.YtbbgiedfkklojaaXx0
import Derived.Test.YtbbgiedfkklojaaXx15
import Derived.Test.YtbbgiedfkklojaaXx16
import Derived.Test.YtbbgiedfkklojaaXx8
import Derived.Test.YtbbgiedfkklojaaXx1
import Derived.Test.YtbbgiedfkklojaaEShown
import Derived.Test.YtbbgiedfkklojaaEType
import Derived.Test.YtbbgiedfkklojaaStrOrd
namespace Go.Proofs.Ytbbgiedfkklojaa.X
open Go.RowKit Go.Proofs.YtbbgiedfkklojaaW.PrintWords Go.Proofs.YtbbgiedfkklojaaW.PrintLast Go.Proofs.YtbbgiedfkklojaaW.PrintMore
attribute [local go_sem] binOp_str_gtr binOp_str_leq binOp_str_geq max2_int min2_int max_two min_two max_three min_three max_four min_four   -- for this text's walks alone
set_option linter.unusedVariables false
set_option linter.unusedSimpArgs false

/-! ### tipstafflaw09_ValueAll: function 11 -/
def tipstafflaw09_ValueAll.f (k : Nat) (a0_0 : Int) (a0_1 : ByteArray) (l0_2 : List ByteArray) (l0_3 : List (S60)) (l0_4 : List (S62)) (a1_0 : Int) (a1_1 : ByteArray) (l1_2 : List ByteArray) (l1_3 : List (S60)) (l1_4 : List (S62)) : Option (Bool) := (tipstafflaw09_shown.f).bind fun t205 => ((tipstaffref09_Small.f a0_0 a0_1 l0_2 l0_3 l0_4).bind fun bt206 => ((tipstaffref09_Small.f a1_0 a1_1 l1_2 l1_3 l1_4).bind fun bt218 => (if t205 = true then ((value_Right.f k bt206.1 bt206.2.1 bt206.2.2.1 bt206.2.2.2.1 bt206.2.2.2.2).bind fun t230 => ((tipstaffref09_Right.f k bt206.1 bt206.2.1 bt206.2.2.1 bt206.2.2.2.1 bt206.2.2.2.2).bind fun t231 => (if (t230 == t231) = true then ((value_Type.f bt206.1 bt206.2.1 bt206.2.2.1 bt206.2.2.2.1 bt206.2.2.2.2).bind fun t232 => ((tipstaffref09_Type.f bt206.1 bt206.2.1 bt206.2.2.1 bt206.2.2.2.1 bt206.2.2.2.2).bind fun t233 => (if t232.toList = t233.toList then ((value_Size.f k bt206.1 bt206.2.1 bt206.2.2.1 bt206.2.2.2.1 bt206.2.2.2.2).bind fun t234 => ((tipstaffref09_Size.f k bt206.1 bt206.2.1 bt206.2.2.1 bt206.2.2.2.1 bt206.2.2.2.2).bind fun t235 => (if t234 = t235 then ((value_Same.f k bt206.1 bt206.2.1 bt206.2.2.1 bt206.2.2.2.1 bt206.2.2.2.2 bt218.1 bt218.2.1 bt218.2.2.1 bt218.2.2.2.1 bt218.2.2.2.2).bind fun t236 => ((tipstaffref09_Same.f k bt206.1 bt206.2.1 bt206.2.2.1 bt206.2.2.2.1 bt206.2.2.2.2 bt218.1 bt218.2.1 bt218.2.2.1 bt218.2.2.2.1 bt218.2.2.2.2).bind fun t237 => (if (t236 == t237) = true then ((value_Same.f k bt206.1 bt206.2.1 bt206.2.2.1 bt206.2.2.2.1 bt206.2.2.2.2 bt206.1 bt206.2.1 bt206.2.2.1 bt206.2.2.2.1 bt206.2.2.2.2).bind fun t238 => (some t238)) else (some false)))) else (some false)))) else (some false)))) else (some false)))) else (some false))))
theorem tipstafflaw09_ValueAll.mono : ∀ a0 a1 a2 a3 a4 a5 a6 a7 a8 a9 k, LeO (tipstafflaw09_ValueAll.f k a0 a1 a2 a3 a4 a5 a6 a7 a8 a9) (tipstafflaw09_ValueAll.f (k + 1) a0 a1 a2 a3 a4 a5 a6 a7 a8 a9) := by
  intro a0 a1 a2 a3 a4 a5 a6 a7 a8 a9 k
  unfold tipstafflaw09_ValueAll.f
  repeat' first
      | (with_reducible exact tipstaffref09_Right.mono _ _ _ _ _ _)
      | (with_reducible exact tipstaffref09_Same.mono _ _ _ _ _ _ _ _ _ _ _)
      | (with_reducible exact tipstaffref09_Size.mono _ _ _ _ _ _)
      | (with_reducible exact value_Right.mono _ _ _ _ _ _)
      | (with_reducible exact value_Same.mono _ _ _ _ _ _ _ _ _ _ _)
      | (with_reducible exact value_Size.mono _ _ _ _ _ _)
      | (with_reducible exact LeO.refl _)
      | (with_reducible exact LeO.none _)
      | (with_reducible refine LeO.ite ?_ ?_)
      | (with_reducible refine LeO.bind ?_ (fun _ => ?_))
      | exact tipstaffref09_Right.mono _ _ _ _ _ _
      | exact tipstaffref09_Same.mono _ _ _ _ _ _ _ _ _ _ _
      | exact tipstaffref09_Size.mono _ _ _ _ _ _
      | exact value_Right.mono _ _ _ _ _ _
      | exact value_Same.mono _ _ _ _ _ _ _ _ _ _ _
      | exact value_Size.mono _ _ _ _ _ _
      | exact LeO.none _
      | refine LeO.ite ?_ ?_
      | refine LeO.bind ?_ (fun _ => ?_)
def tipstafflaw09_ValueAll.T4 : Bool × List (List Nat × List Nat) := (true, [([], []), ([0], [0]), ([1], [1]), ([2, 1, 1], [1, 2]), ([1], [1]), ([4, 3, 1], [1, 4]), ([3, 5, 1], [1, 3, 5]), ([1, 6], [1, 6]), ([7, 5], [7]), ([8], [8]), ([9, 8, 8], [8, 9]), ([8], [8]), ([11, 10, 8], [8, 11]), ([10, 12, 8], [8, 10, 12]), ([8, 13], [8, 13]), ([14, 12], [14]), ([15], [15]), ([16, 15, 15], [15, 16]), ([15], [15]), ([18, 17, 15], [15, 18]), ([17, 19, 15], [15, 17, 19]), ([15, 20], [15, 20]), ([21, 19], [21]), ([22], [22]), ([22], [22]), ([23, 24, 22, 22], [22, 23, 24]), ([22], [22]), ([22], [22]), ([26, 27, 25, 22], [22, 26, 27]), ([25, 28, 22], [22, 25, 28]), ([22, 29], [22, 29]), ([30, 28], [30]), ([31], [31]), ([31], [31]), ([32, 33, 31, 31], [31, 32, 33]), ([31, 34], [31, 34]), ([35, 34, 0, 1, 2, 3, 4, 5, 6, 7, 8, 9, 10, 11, 12, 13, 14, 15, 16, 17, 18, 19, 20, 21, 22, 23, 24, 25, 26, 27, 28, 29, 30, 31, 32, 33, 34, 35], [35])])
def tipstafflaw09_ValueAll.B4 : List Nat := [0, 1, 3, 7, 3, 31, 63, 127, 255, 511, 1023, 511, 4095, 8191, 16383, 32767, 65535, 131071, 65535, 524287, 1048575, 2097151, 4194303, 8388607, 8388607, 33554431, 8388607, 8388607, 268435455, 536870911, 1073741823, 2147483647, 4294967295, 4294967295, 17179869183, 34359738367, 68719476735]
theorem tipstafflaw09_ValueAll.tab4 : rtab .any (opsOf Try.f11 4) = tipstafflaw09_ValueAll.T4 := by kernel_rfl
theorem tipstafflaw09_ValueAll.bits4 : waitsOk tipstafflaw09_ValueAll.T4.2 tipstafflaw09_ValueAll.B4 = true := by kernel_rfl
set_option maxHeartbeats 8000000 in
set_option maxRecDepth 100000 in
theorem tipstafflaw09_ValueAll.calls (k : Nat) (a0_0 : Int) (a0_1 : ByteArray) (A0_2 : Option Addr) (c0_2 : Nat) (l0_2 : List ByteArray) (A0_3 : Option Addr) (c0_3 : Nat) (l0_3 : List (S60)) (A0_4 : Option Addr) (c0_4 : Nat) (l0_4 : List (S62)) (a1_0 : Int) (a1_1 : ByteArray) (A1_2 : Option Addr) (c1_2 : Nat) (l1_2 : List ByteArray) (A1_3 : Option Addr) (c1_3 : Nat) (l1_3 : List (S60)) (A1_4 : Option Addr) (c1_4 : Nat) (l1_4 : List (S62)) (r : Bool) (w : World) (hr0_2 : Kd.C Kd.string w A0_2 l0_2.length l0_2) (hc0_2 : l0_2.length ≤ c0_2) (hr0_3 : Kd.C k60 w A0_3 l0_3.length l0_3) (hc0_3 : l0_3.length ≤ c0_3) (hr0_4 : Kd.C k62 w A0_4 l0_4.length l0_4) (hc0_4 : l0_4.length ≤ c0_4) (hr1_2 : Kd.C Kd.string w A1_2 l1_2.length l1_2) (hc1_2 : l1_2.length ≤ c1_2) (hr1_3 : Kd.C k60 w A1_3 l1_3.length l1_3) (hc1_3 : l1_3.length ≤ c1_3) (hr1_4 : Kd.C k62 w A1_4 l1_4.length l1_4) (hc1_4 : l1_4.length ≤ c1_4) (h : tipstafflaw09_ValueAll.f k a0_0 a0_1 l0_2 l0_3 l0_4 a1_0 a1_1 l1_2 l1_3 l1_4 = some r) (hT : r = true) :
    Calls Try.prog 11 #[.agg #[.int .u8 a0_0, .string a0_1, .slice A0_2 l0_2.length c0_2, .slice A0_3 l0_3.length c0_3, .slice A0_4 l0_4.length c0_4], .agg #[.int .u8 a1_0, .string a1_1, .slice A1_2 l1_2.length c1_2, .slice A1_3 l1_3.length c1_3, .slice A1_4 l1_4.length c1_4]] w fun e w' => e = .returned (.bool r) ∧ Below w.heap.size w w' := by
  have HT := Aside0.mk hT
  clear hT
  have hu26 := Try.underlying26
  have HR0_2 := Aside0.mk hr0_2
  have HC0_2 := Aside0.mk hc0_2
  clear hr0_2 hc0_2
  have HR0_3 := Aside0.mk hr0_3
  have HC0_3 := Aside0.mk hc0_3
  clear hr0_3 hc0_3
  have HR0_4 := Aside0.mk hr0_4
  have HC0_4 := Aside0.mk hc0_4
  clear hr0_4 hc0_4
  have HR1_2 := Aside0.mk hr1_2
  have HC1_2 := Aside0.mk hc1_2
  clear hr1_2 hc1_2
  have HR1_3 := Aside0.mk hr1_3
  have HC1_3 := Aside0.mk hc1_3
  clear hr1_3 hc1_3
  have HR1_4 := Aside0.mk hr1_4
  have HC1_4 := Aside0.mk hc1_4
  clear hr1_4 hc1_4
  have HB := Aside0.mk (Below.refl w.heap.size w)
  have H : ((tipstafflaw09_shown.f).bind fun t205 => ((tipstaffref09_Small.f a0_0 a0_1 l0_2 l0_3 l0_4).bind fun bt206 => ((tipstaffref09_Small.f a1_0 a1_1 l1_2 l1_3 l1_4).bind fun bt218 => (if t205 = true then ((value_Right.f k bt206.1 bt206.2.1 bt206.2.2.1 bt206.2.2.2.1 bt206.2.2.2.2).bind fun t230 => ((tipstaffref09_Right.f k bt206.1 bt206.2.1 bt206.2.2.1 bt206.2.2.2.1 bt206.2.2.2.2).bind fun t231 => (if (t230 == t231) = true then ((value_Type.f bt206.1 bt206.2.1 bt206.2.2.1 bt206.2.2.2.1 bt206.2.2.2.2).bind fun t232 => ((tipstaffref09_Type.f bt206.1 bt206.2.1 bt206.2.2.1 bt206.2.2.2.1 bt206.2.2.2.2).bind fun t233 => (if t232.toList = t233.toList then ((value_Size.f k bt206.1 bt206.2.1 bt206.2.2.1 bt206.2.2.2.1 bt206.2.2.2.2).bind fun t234 => ((tipstaffref09_Size.f k bt206.1 bt206.2.1 bt206.2.2.1 bt206.2.2.2.1 bt206.2.2.2.2).bind fun t235 => (if t234 = t235 then ((value_Same.f k bt206.1 bt206.2.1 bt206.2.2.1 bt206.2.2.2.1 bt206.2.2.2.2 bt218.1 bt218.2.1 bt218.2.2.1 bt218.2.2.2.1 bt218.2.2.2.2).bind fun t236 => ((tipstaffref09_Same.f k bt206.1 bt206.2.1 bt206.2.2.1 bt206.2.2.2.1 bt206.2.2.2.2 bt218.1 bt218.2.1 bt218.2.2.1 bt218.2.2.2.1 bt218.2.2.2.2).bind fun t237 => (if (t236 == t237) = true then ((value_Same.f k bt206.1 bt206.2.1 bt206.2.2.1 bt206.2.2.2.1 bt206.2.2.2.2 bt206.1 bt206.2.1 bt206.2.2.1 bt206.2.2.2.1 bt206.2.2.2.2).bind fun t238 => (some t238)) else (some false)))) else (some false)))) else (some false)))) else (some false)))) else (some false))))) = some r := h
  clear h
  replace H := Option.bind_eq_some_iff.mp H
  obtain ⟨t205, A30, H⟩ := H
  replace H : ((tipstaffref09_Small.f a0_0 a0_1 l0_2 l0_3 l0_4).bind fun bt206 => ((tipstaffref09_Small.f a1_0 a1_1 l1_2 l1_3 l1_4).bind fun bt218 => (if t205 = true then ((value_Right.f k bt206.1 bt206.2.1 bt206.2.2.1 bt206.2.2.2.1 bt206.2.2.2.2).bind fun t230 => ((tipstaffref09_Right.f k bt206.1 bt206.2.1 bt206.2.2.1 bt206.2.2.2.1 bt206.2.2.2.2).bind fun t231 => (if (t230 == t231) = true then ((value_Type.f bt206.1 bt206.2.1 bt206.2.2.1 bt206.2.2.2.1 bt206.2.2.2.2).bind fun t232 => ((tipstaffref09_Type.f bt206.1 bt206.2.1 bt206.2.2.1 bt206.2.2.2.1 bt206.2.2.2.2).bind fun t233 => (if t232.toList = t233.toList then ((value_Size.f k bt206.1 bt206.2.1 bt206.2.2.1 bt206.2.2.2.1 bt206.2.2.2.2).bind fun t234 => ((tipstaffref09_Size.f k bt206.1 bt206.2.1 bt206.2.2.1 bt206.2.2.2.1 bt206.2.2.2.2).bind fun t235 => (if t234 = t235 then ((value_Same.f k bt206.1 bt206.2.1 bt206.2.2.1 bt206.2.2.2.1 bt206.2.2.2.2 bt218.1 bt218.2.1 bt218.2.2.1 bt218.2.2.2.1 bt218.2.2.2.2).bind fun t236 => ((tipstaffref09_Same.f k bt206.1 bt206.2.1 bt206.2.2.1 bt206.2.2.2.1 bt206.2.2.2.2 bt218.1 bt218.2.1 bt218.2.2.1 bt218.2.2.2.1 bt218.2.2.2.2).bind fun t237 => (if (t236 == t237) = true then ((value_Same.f k bt206.1 bt206.2.1 bt206.2.2.1 bt206.2.2.2.1 bt206.2.2.2.2 bt206.1 bt206.2.1 bt206.2.2.1 bt206.2.2.2.1 bt206.2.2.2.2).bind fun t238 => (some t238)) else (some false)))) else (some false)))) else (some false)))) else (some false)))) else (some false)))) = some r := H
  have A3 := Aside0.mk A30
  clear A30
  replace H := Option.bind_eq_some_iff.mp H
  obtain ⟨⟨t206, t207, t208, t211, t214⟩, A40, H⟩ := H
  replace H : ((tipstaffref09_Small.f a1_0 a1_1 l1_2 l1_3 l1_4).bind fun bt218 => (if t205 = true then ((value_Right.f k t206 t207 t208 t211 t214).bind fun t230 => ((tipstaffref09_Right.f k t206 t207 t208 t211 t214).bind fun t231 => (if (t230 == t231) = true then ((value_Type.f t206 t207 t208 t211 t214).bind fun t232 => ((tipstaffref09_Type.f t206 t207 t208 t211 t214).bind fun t233 => (if t232.toList = t233.toList then ((value_Size.f k t206 t207 t208 t211 t214).bind fun t234 => ((tipstaffref09_Size.f k t206 t207 t208 t211 t214).bind fun t235 => (if t234 = t235 then ((value_Same.f k t206 t207 t208 t211 t214 bt218.1 bt218.2.1 bt218.2.2.1 bt218.2.2.2.1 bt218.2.2.2.2).bind fun t236 => ((tipstaffref09_Same.f k t206 t207 t208 t211 t214 bt218.1 bt218.2.1 bt218.2.2.1 bt218.2.2.2.1 bt218.2.2.2.2).bind fun t237 => (if (t236 == t237) = true then ((value_Same.f k t206 t207 t208 t211 t214 t206 t207 t208 t211 t214).bind fun t238 => (some t238)) else (some false)))) else (some false)))) else (some false)))) else (some false)))) else (some false))) = some r := H
  have A4 := Aside0.mk A40
  clear A40
  replace H := Option.bind_eq_some_iff.mp H
  obtain ⟨⟨t218, t219, t220, t223, t226⟩, A50, H⟩ := H
  replace H : (if t205 = true then ((value_Right.f k t206 t207 t208 t211 t214).bind fun t230 => ((tipstaffref09_Right.f k t206 t207 t208 t211 t214).bind fun t231 => (if (t230 == t231) = true then ((value_Type.f t206 t207 t208 t211 t214).bind fun t232 => ((tipstaffref09_Type.f t206 t207 t208 t211 t214).bind fun t233 => (if t232.toList = t233.toList then ((value_Size.f k t206 t207 t208 t211 t214).bind fun t234 => ((tipstaffref09_Size.f k t206 t207 t208 t211 t214).bind fun t235 => (if t234 = t235 then ((value_Same.f k t206 t207 t208 t211 t214 t218 t219 t220 t223 t226).bind fun t236 => ((tipstaffref09_Same.f k t206 t207 t208 t211 t214 t218 t219 t220 t223 t226).bind fun t237 => (if (t236 == t237) = true then ((value_Same.f k t206 t207 t208 t211 t214 t206 t207 t208 t211 t214).bind fun t238 => (some t238)) else (some false)))) else (some false)))) else (some false)))) else (some false)))) else (some false)) = some r := H
  have A5 := Aside0.mk A50
  clear A50
  by_cases c6 : t205 = true
  · subst c6
    have H1 : ((value_Right.f k t206 t207 t208 t211 t214).bind fun t230 => ((tipstaffref09_Right.f k t206 t207 t208 t211 t214).bind fun t231 => (if (t230 == t231) = true then ((value_Type.f t206 t207 t208 t211 t214).bind fun t232 => ((tipstaffref09_Type.f t206 t207 t208 t211 t214).bind fun t233 => (if t232.toList = t233.toList then ((value_Size.f k t206 t207 t208 t211 t214).bind fun t234 => ((tipstaffref09_Size.f k t206 t207 t208 t211 t214).bind fun t235 => (if t234 = t235 then ((value_Same.f k t206 t207 t208 t211 t214 t218 t219 t220 t223 t226).bind fun t236 => ((tipstaffref09_Same.f k t206 t207 t208 t211 t214 t218 t219 t220 t223 t226).bind fun t237 => (if (t236 == t237) = true then ((value_Same.f k t206 t207 t208 t211 t214 t206 t207 t208 t211 t214).bind fun t238 => (some t238)) else (some false)))) else (some false)))) else (some false)))) else (some false)))) = some r := by rw [if_pos rfl] at H; exact H
    clear H
    have H := H1
    clear H1
    replace H := Option.bind_eq_some_iff.mp H
    obtain ⟨t230, A70, H⟩ := H
    replace H : ((tipstaffref09_Right.f k t206 t207 t208 t211 t214).bind fun t231 => (if (t230 == t231) = true then ((value_Type.f t206 t207 t208 t211 t214).bind fun t232 => ((tipstaffref09_Type.f t206 t207 t208 t211 t214).bind fun t233 => (if t232.toList = t233.toList then ((value_Size.f k t206 t207 t208 t211 t214).bind fun t234 => ((tipstaffref09_Size.f k t206 t207 t208 t211 t214).bind fun t235 => (if t234 = t235 then ((value_Same.f k t206 t207 t208 t211 t214 t218 t219 t220 t223 t226).bind fun t236 => ((tipstaffref09_Same.f k t206 t207 t208 t211 t214 t218 t219 t220 t223 t226).bind fun t237 => (if (t236 == t237) = true then ((value_Same.f k t206 t207 t208 t211 t214 t206 t207 t208 t211 t214).bind fun t238 => (some t238)) else (some false)))) else (some false)))) else (some false)))) else (some false))) = some r := H
    have A7 := Aside0.mk A70
    clear A70
    replace H := Option.bind_eq_some_iff.mp H
    obtain ⟨t231, A80, H⟩ := H
    replace H : (if (t230 == t231) = true then ((value_Type.f t206 t207 t208 t211 t214).bind fun t232 => ((tipstaffref09_Type.f t206 t207 t208 t211 t214).bind fun t233 => (if t232.toList = t233.toList then ((value_Size.f k t206 t207 t208 t211 t214).bind fun t234 => ((tipstaffref09_Size.f k t206 t207 t208 t211 t214).bind fun t235 => (if t234 = t235 then ((value_Same.f k t206 t207 t208 t211 t214 t218 t219 t220 t223 t226).bind fun t236 => ((tipstaffref09_Same.f k t206 t207 t208 t211 t214 t218 t219 t220 t223 t226).bind fun t237 => (if (t236 == t237) = true then ((value_Same.f k t206 t207 t208 t211 t214 t206 t207 t208 t211 t214).bind fun t238 => (some t238)) else (some false)))) else (some false)))) else (some false)))) else (some false)) = some r := H
    have A8 := Aside0.mk A80
    clear A80
    by_cases c9 : (t230 == t231) = true
    · rw [if_pos c9] at H
      have c9b0 : (t230 == t231) = true := c9
      (try (have c9b1 : decide (t230 = t231) = true := by (first | exact c9 | (simp; done) | (have h_ := c9; simp at h_; done) | (have h_ := c9; simp at h_ ⊢; first | done | exact h_))))
      (try (have c9b2 : (t230 == t231) = true := by (first | exact c9 | (simp; done) | (have h_ := c9; simp at h_; done) | (have h_ := c9; simp at h_ ⊢; first | done | exact h_))))
      clear c9
      replace H := Option.bind_eq_some_iff.mp H
      obtain ⟨t232, A100, H⟩ := H
      replace H : ((tipstaffref09_Type.f t206 t207 t208 t211 t214).bind fun t233 => (if t232.toList = t233.toList then ((value_Size.f k t206 t207 t208 t211 t214).bind fun t234 => ((tipstaffref09_Size.f k t206 t207 t208 t211 t214).bind fun t235 => (if t234 = t235 then ((value_Same.f k t206 t207 t208 t211 t214 t218 t219 t220 t223 t226).bind fun t236 => ((tipstaffref09_Same.f k t206 t207 t208 t211 t214 t218 t219 t220 t223 t226).bind fun t237 => (if (t236 == t237) = true then ((value_Same.f k t206 t207 t208 t211 t214 t206 t207 t208 t211 t214).bind fun t238 => (some t238)) else (some false)))) else (some false)))) else (some false))) = some r := H
      have A10 := Aside0.mk A100
      clear A100
      replace H := Option.bind_eq_some_iff.mp H
      obtain ⟨t233, A110, H⟩ := H
      replace H : (if t232.toList = t233.toList then ((value_Size.f k t206 t207 t208 t211 t214).bind fun t234 => ((tipstaffref09_Size.f k t206 t207 t208 t211 t214).bind fun t235 => (if t234 = t235 then ((value_Same.f k t206 t207 t208 t211 t214 t218 t219 t220 t223 t226).bind fun t236 => ((tipstaffref09_Same.f k t206 t207 t208 t211 t214 t218 t219 t220 t223 t226).bind fun t237 => (if (t236 == t237) = true then ((value_Same.f k t206 t207 t208 t211 t214 t206 t207 t208 t211 t214).bind fun t238 => (some t238)) else (some false)))) else (some false)))) else (some false)) = some r := H
      have A11 := Aside0.mk A110
      clear A110
      by_cases c12 : t232.toList = t233.toList
      · rw [if_pos c12] at H
        have c12b0 : (t232.toList == t233.toList) = true := beq_iff_eq.mpr c12
        have c12b1 : (t232.toList != t233.toList) = false := bne_eq_false_iff_eq.mpr c12
        clear c12
        replace H := Option.bind_eq_some_iff.mp H
        obtain ⟨t234, A130, H⟩ := H
        replace H : ((tipstaffref09_Size.f k t206 t207 t208 t211 t214).bind fun t235 => (if t234 = t235 then ((value_Same.f k t206 t207 t208 t211 t214 t218 t219 t220 t223 t226).bind fun t236 => ((tipstaffref09_Same.f k t206 t207 t208 t211 t214 t218 t219 t220 t223 t226).bind fun t237 => (if (t236 == t237) = true then ((value_Same.f k t206 t207 t208 t211 t214 t206 t207 t208 t211 t214).bind fun t238 => (some t238)) else (some false)))) else (some false))) = some r := H
        have A13 := Aside0.mk A130
        clear A130
        replace H := Option.bind_eq_some_iff.mp H
        obtain ⟨t235, A140, H⟩ := H
        replace H : (if t234 = t235 then ((value_Same.f k t206 t207 t208 t211 t214 t218 t219 t220 t223 t226).bind fun t236 => ((tipstaffref09_Same.f k t206 t207 t208 t211 t214 t218 t219 t220 t223 t226).bind fun t237 => (if (t236 == t237) = true then ((value_Same.f k t206 t207 t208 t211 t214 t206 t207 t208 t211 t214).bind fun t238 => (some t238)) else (some false)))) else (some false)) = some r := H
        have A14 := Aside0.mk A140
        clear A140
        by_cases c15 : t234 = t235
        · rw [if_pos c15] at H
          have c15b0 : (t234 == t235) = true := beq_iff_eq.mpr c15
          have c15b1 : (t234 != t235) = false := bne_eq_false_iff_eq.mpr c15
          clear c15
          replace H := Option.bind_eq_some_iff.mp H
          obtain ⟨t236, A160, H⟩ := H
          replace H : ((tipstaffref09_Same.f k t206 t207 t208 t211 t214 t218 t219 t220 t223 t226).bind fun t237 => (if (t236 == t237) = true then ((value_Same.f k t206 t207 t208 t211 t214 t206 t207 t208 t211 t214).bind fun t238 => (some t238)) else (some false))) = some r := H
          have A16 := Aside0.mk A160
          clear A160
          replace H := Option.bind_eq_some_iff.mp H
          obtain ⟨t237, A170, H⟩ := H
          replace H : (if (t236 == t237) = true then ((value_Same.f k t206 t207 t208 t211 t214 t206 t207 t208 t211 t214).bind fun t238 => (some t238)) else (some false)) = some r := H
          have A17 := Aside0.mk A170
          clear A170
          by_cases c18 : (t236 == t237) = true
          · rw [if_pos c18] at H
            have c18b0 : (t236 == t237) = true := c18
            (try (have c18b1 : decide (t236 = t237) = true := by (first | exact c18 | (simp; done) | (have h_ := c18; simp at h_; done) | (have h_ := c18; simp at h_ ⊢; first | done | exact h_))))
            (try (have c18b2 : (t236 == t237) = true := by (first | exact c18 | (simp; done) | (have h_ := c18; simp at h_; done) | (have h_ := c18; simp at h_ ⊢; first | done | exact h_))))
            clear c18
            replace H := Option.bind_eq_some_iff.mp H
            obtain ⟨t238, A190, H⟩ := H
            replace H : (some t238) = some r := H
            have A19 := Aside0.mk A190
            clear A190
            obtain rfl := Option.some.inj H
            go_enter Try.func11, Try.ntmps11
            try go_wp2_with (first | ((with_reducible refine gate_dst (N := 2) rfl ?_); refine box_event ?hg (N := 2) ?hd (cs := #[.int .u8 a0_0, .string a0_1, .slice A0_2 l0_2.length c0_2, .slice A0_3 l0_3.length c0_3, .slice A0_4 l0_4.length c0_4]) (t := 26) ?hr ?_; (case hd => rfl); (case hg => rfl); (case hr => first | (go_simp; done) | (go_simp; rfl)); intro gb203 hg w20 hbox hb; have n0_ := Aside0.mk (below_step (by repeat (first | (with_reducible first | exact HB.out | apply below_alloc | apply pw_below_drewN | apply below_drew1) | exact HB.out)) hb); have n1_ := Aside0.mk (hbox); have n2_ := Aside0.mk ((by rw [hg]; exact (below_size (by repeat (first | (with_reducible first | exact HB.out | apply below_alloc | apply pw_below_drewN | apply below_drew1) | exact HB.out))) : w.heap.size ≤ gb203)); have n3_ := Aside0.mk ((by rw [hg]; exact (below_size (by repeat (first | (with_reducible first | exact HB.out | apply below_alloc | apply pw_below_drewN | apply below_drew1) | exact HB.out))) : w.heap.size ≤ gb203)); clear HB; have HB := n0_; have BK203 := n1_; have GW203 := n2_; have GE203 := n3_; clear n0_ n1_ n2_ n3_; clear hb hbox hg) | ((with_reducible refine gate_dst (N := 3) rfl ?_); refine box_event ?hg (N := 3) ?hd (cs := #[.int .u8 a1_0, .string a1_1, .slice A1_2 l1_2.length c1_2, .slice A1_3 l1_3.length c1_3, .slice A1_4 l1_4.length c1_4]) (t := 26) ?hr ?_; (case hd => rfl); (case hg => rfl); (case hr => first | (go_simp; done) | (go_simp; rfl)); intro gb204 hg w21 hbox hb; have n0_ := Aside0.mk (blk_below (g := gb203) (o := .cells #[.int .u8 a0_0, .string a0_1, .slice A0_2 l0_2.length c0_2, .slice A0_3 l0_3.length c0_3, .slice A0_4 l0_4.length c0_4] 26 (0, 0)) (by (with_reducible repeat (first | refine blk_drewN ?_ _ | refine blk_drew ?_ | refine blk_alloc ?_ _)); exact BK203.out) hb); have n1_ := Aside0.mk (below_step (by repeat (first | (with_reducible first | exact HB.out | apply below_alloc | apply pw_below_drewN | apply below_drew1 | refine below_set ?_ GE203.out) | exact HB.out)) hb); have n2_ := Aside0.mk (hbox); have n3_ := Aside0.mk ((by rw [hg]; exact (below_size (by repeat (first | (with_reducible first | exact HB.out | apply below_alloc | apply pw_below_drewN | apply below_drew1 | refine below_set ?_ GE203.out) | exact HB.out))) : w.heap.size ≤ gb204)); have n4_ := Aside0.mk ((by rw [hg]; exact (below_size (by repeat (first | (with_reducible first | exact HB.out | apply below_alloc | apply pw_below_drewN | apply below_drew1 | refine below_set ?_ GE203.out) | exact HB.out))) : w.heap.size ≤ gb204)); have n5_ := Aside0.mk ((by rw [hg]; exact Nat.ne_of_lt (blk_lt (g := gb203) (o := .cells #[.int .u8 a0_0, .string a0_1, .slice A0_2 l0_2.length c0_2, .slice A0_3 l0_3.length c0_3, .slice A0_4 l0_4.length c0_4] 26 (0, 0)) (by (with_reducible repeat (first | refine blk_drewN ?_ _ | refine blk_drew ?_ | refine blk_alloc ?_ _)); exact BK203.out)) : gb203 ≠ gb204)); have n6_ := Aside0.mk ((by rw [hg]; exact Nat.ne_of_gt (blk_lt (g := gb203) (o := .cells #[.int .u8 a0_0, .string a0_1, .slice A0_2 l0_2.length c0_2, .slice A0_3 l0_3.length c0_3, .slice A0_4 l0_4.length c0_4] 26 (0, 0)) (by (with_reducible repeat (first | refine blk_drewN ?_ _ | refine blk_drew ?_ | refine blk_alloc ?_ _)); exact BK203.out)) : gb204 ≠ gb203)); clear BK203; clear HB; have BK203 := n0_; have HB := n1_; have BK204 := n2_; have GW204 := n3_; have GE204 := n4_; have NB203_204 := n5_; have NB204_203 := n6_; clear n0_ n1_ n2_ n3_ n4_ n5_ n6_; clear hb hbox hg) | ((with_reducible refine gate_callee (f := 39) rfl ?_); refine goesL_ (some 8) rfl rfl Try.func39 (by kernel_rfl) rfl #[] rfl (by (try simp only [List.map_toArray, List.map_cons, List.map_nil]); first | done | rfl | (simp only [List.length_drop, List.length_take]; rfl)) ?_; (with_reducible refine (tipstafflaw09_shown.calls  true _ A3.out).mono ?_); rintro e w22 ⟨rfl, hb⟩; refine ⟨_, rfl, ?_⟩; have n0_ := Aside0.mk (blk_below (g := gb203) (o := .cells #[.int .u8 a0_0, .string a0_1, .slice A0_2 l0_2.length c0_2, .slice A0_3 l0_3.length c0_3, .slice A0_4 l0_4.length c0_4] 26 (0, 0)) (by (with_reducible repeat (first | refine blk_drewN ?_ _ | refine blk_drew ?_ | refine blk_alloc ?_ _)); exact BK203.out) hb); have n1_ := Aside0.mk (blk_below (g := gb204) (o := .cells #[.int .u8 a1_0, .string a1_1, .slice A1_2 l1_2.length c1_2, .slice A1_3 l1_3.length c1_3, .slice A1_4 l1_4.length c1_4] 26 (0, 0)) (by (with_reducible repeat (first | refine blk_drewN ?_ _ | refine blk_drew ?_ | refine blk_alloc ?_ _)); exact BK204.out) hb); have n2_ := Aside0.mk (below_step (by repeat (first | (with_reducible first | exact HB.out | apply below_alloc | apply pw_below_drewN | apply below_drew1 | refine below_set ?_ GE203.out | refine below_set ?_ GE204.out) | exact HB.out)) hb); clear BK203; clear BK204; clear HB; have BK203 := n0_; have BK204 := n1_; have HB := n2_; clear n0_ n1_ n2_; (try clear hb); (try clear hb2); (try clear hk); (try clear hi); have hnb23 := NB203_204.out; have hnc23 := NB204_203.out; have hcz24_0 : w22.cell? ⟨gb203, 0, none⟩ = some (.int .u8 a0_0) := (blk_cell BK203.out 0).trans rfl; have hcz24_1 : w22.cell? ⟨gb203, 1, none⟩ = some (.string a0_1) := (blk_cell BK203.out 1).trans rfl; have hcz24_2 : w22.cell? ⟨gb203, 2, none⟩ = some (.slice A0_2 l0_2.length c0_2) := (blk_cell BK203.out 2).trans rfl; have hcz24_3 : w22.cell? ⟨gb203, 3, none⟩ = some (.slice A0_3 l0_3.length c0_3) := (blk_cell BK203.out 3).trans rfl; have hcz24_4 : w22.cell? ⟨gb203, 4, none⟩ = some (.slice A0_4 l0_4.length c0_4) := (blk_cell BK203.out 4).trans rfl; have hfz24_0 := blk_frozen BK203.out 0; have hfz24_1 := blk_frozen BK203.out 1; have hfz24_2 := blk_frozen BK203.out 2; have hfz24_3 := blk_frozen BK203.out 3; have hfz24_4 := blk_frozen BK203.out 4) | ((with_reducible refine gate_callee (f := 40) rfl ?_); refine goesL_ (some 10) rfl rfl Try.func40 (by kernel_rfl) rfl #[.agg #[.int .u8 a0_0, .string a0_1, .slice A0_2 l0_2.length c0_2, .slice A0_3 l0_3.length c0_3, .slice A0_4 l0_4.length c0_4]] rfl (by (try simp only [List.map_toArray, List.map_cons, List.map_nil]); first | done | rfl | (simp only [List.length_drop, List.length_take]; rfl)) ?_; (with_reducible refine (tipstaffref09_Small.calls a0_0 a0_1 _ _ l0_2 _ _ l0_3 _ _ l0_4 t206 t207 t208 t211 t214 _ ?side1 ?side2 ?side3 ?side4 ?side5 ?side6 A4.out).mono ?_); (case side1 => repeat (first | exact (Kd.C_below HR0_2.out HB.out) | (with_reducible refine Kd.C_alloc ?_ _) | (with_reducible refine Kd.C_drewN ?_ _) | (with_reducible refine Kd.C_drew ?_))); (case side2 => exact HC0_2.out); (case side3 => repeat (first | exact (Kd.C_below HR0_3.out HB.out) | (with_reducible refine Kd.C_alloc ?_ _) | (with_reducible refine Kd.C_drewN ?_ _) | (with_reducible refine Kd.C_drew ?_))); (case side4 => exact HC0_3.out); (case side5 => repeat (first | exact (Kd.C_below HR0_4.out HB.out) | (with_reducible refine Kd.C_alloc ?_ _) | (with_reducible refine Kd.C_drewN ?_ _) | (with_reducible refine Kd.C_drew ?_))); (case side6 => exact HC0_4.out); rintro e w25 ⟨v209, v212, v215, rfl, ho0, ho1, ho2, hb⟩; refine ⟨_, rfl, ?_⟩; have n0_ := Aside0.mk (Kd.R_lower ho0 (below_size (by repeat (first | (with_reducible first | exact HB.out | apply below_alloc | apply pw_below_drewN | apply below_drew1 | refine below_set ?_ GE203.out | refine below_set ?_ GE204.out) | exact HB.out)))); have n1_ := Aside0.mk (Kd.R_lower ho1 (below_size (by repeat (first | (with_reducible first | exact HB.out | apply below_alloc | apply pw_below_drewN | apply below_drew1 | refine below_set ?_ GE203.out | refine below_set ?_ GE204.out) | exact HB.out)))); have n2_ := Aside0.mk (Kd.R_lower ho2 (below_size (by repeat (first | (with_reducible first | exact HB.out | apply below_alloc | apply pw_below_drewN | apply below_drew1 | refine below_set ?_ GE203.out | refine below_set ?_ GE204.out) | exact HB.out)))); have n3_ := Aside0.mk (blk_below (g := gb203) (o := .cells #[.int .u8 a0_0, .string a0_1, .slice A0_2 l0_2.length c0_2, .slice A0_3 l0_3.length c0_3, .slice A0_4 l0_4.length c0_4] 26 (0, 0)) (by (with_reducible repeat (first | refine blk_drewN ?_ _ | refine blk_drew ?_ | refine blk_alloc ?_ _)); exact BK203.out) hb); have n4_ := Aside0.mk (blk_below (g := gb204) (o := .cells #[.int .u8 a1_0, .string a1_1, .slice A1_2 l1_2.length c1_2, .slice A1_3 l1_3.length c1_3, .slice A1_4 l1_4.length c1_4] 26 (0, 0)) (by (with_reducible repeat (first | refine blk_drewN ?_ _ | refine blk_drew ?_ | refine blk_alloc ?_ _)); exact BK204.out) hb); have n5_ := Aside0.mk (below_step (by repeat (first | (with_reducible first | exact HB.out | apply below_alloc | apply pw_below_drewN | apply below_drew1 | refine below_set ?_ GE203.out | refine below_set ?_ GE204.out) | exact HB.out)) hb); clear BK203; clear BK204; clear HB; have HO210 := n0_; have HO213 := n1_; have HO216 := n2_; have BK203 := n3_; have BK204 := n4_; have HB := n5_; clear n0_ n1_ n2_ n3_ n4_ n5_; (try clear hb); (try clear hb2); (try clear hk); (try clear hi); (try clear ho0); (try clear ho1); (try clear ho2)) | ((with_reducible refine gate_dst (N := 6) rfl ?_); refine box_event ?hg (N := 6) ?hd (cs := #[.int .u8 0, .string (⟨#[]⟩ : ByteArray), .slice none 0 0, .slice none 0 0, .slice none 0 0]) (t := 26) ?hr ?_; (case hd => rfl); (case hg => rfl); (case hr => first | (go_simp; done) | (go_simp; rfl)); intro gb217 hg w26 hbox hb; have n0_ := Aside0.mk (Kd.R_below (by (with_reducible repeat (first | apply Kd.R_alloc | apply Kd.R_drewN | apply Kd.R_drew)); exact HO210.out) hb); have n1_ := Aside0.mk (Kd.R_below (by (with_reducible repeat (first | apply Kd.R_alloc | apply Kd.R_drewN | apply Kd.R_drew)); exact HO213.out) hb); have n2_ := Aside0.mk (Kd.R_below (by (with_reducible repeat (first | apply Kd.R_alloc | apply Kd.R_drewN | apply Kd.R_drew)); exact HO216.out) hb); have n3_ := Aside0.mk (blk_below (g := gb203) (o := .cells #[.int .u8 a0_0, .string a0_1, .slice A0_2 l0_2.length c0_2, .slice A0_3 l0_3.length c0_3, .slice A0_4 l0_4.length c0_4] 26 (0, 0)) (by (with_reducible repeat (first | refine blk_drewN ?_ _ | refine blk_drew ?_ | refine blk_alloc ?_ _)); exact BK203.out) hb); have n4_ := Aside0.mk (blk_below (g := gb204) (o := .cells #[.int .u8 a1_0, .string a1_1, .slice A1_2 l1_2.length c1_2, .slice A1_3 l1_3.length c1_3, .slice A1_4 l1_4.length c1_4] 26 (0, 0)) (by (with_reducible repeat (first | refine blk_drewN ?_ _ | refine blk_drew ?_ | refine blk_alloc ?_ _)); exact BK204.out) hb); have n5_ := Aside0.mk (below_step (by repeat (first | (with_reducible first | exact HB.out | apply below_alloc | apply pw_below_drewN | apply below_drew1 | refine below_set ?_ GE203.out | refine below_set ?_ GE204.out) | exact HB.out)) hb); have n6_ := Aside0.mk (hbox); have n7_ := Aside0.mk ((by rw [hg]; exact (below_size (by repeat (first | (with_reducible first | exact HB.out | apply below_alloc | apply pw_below_drewN | apply below_drew1 | refine below_set ?_ GE203.out | refine below_set ?_ GE204.out) | exact HB.out))) : w.heap.size ≤ gb217)); have n8_ := Aside0.mk ((by rw [hg]; exact (below_size (by repeat (first | (with_reducible first | exact HB.out | apply below_alloc | apply pw_below_drewN | apply below_drew1 | refine below_set ?_ GE203.out | refine below_set ?_ GE204.out) | exact HB.out))) : w.heap.size ≤ gb217)); have n9_ := Aside0.mk ((by rw [hg]; exact Nat.ne_of_lt (blk_lt (g := gb203) (o := .cells #[.int .u8 a0_0, .string a0_1, .slice A0_2 l0_2.length c0_2, .slice A0_3 l0_3.length c0_3, .slice A0_4 l0_4.length c0_4] 26 (0, 0)) (by (with_reducible repeat (first | refine blk_drewN ?_ _ | refine blk_drew ?_ | refine blk_alloc ?_ _)); exact BK203.out)) : gb203 ≠ gb217)); have n10_ := Aside0.mk ((by rw [hg]; exact Nat.ne_of_gt (blk_lt (g := gb203) (o := .cells #[.int .u8 a0_0, .string a0_1, .slice A0_2 l0_2.length c0_2, .slice A0_3 l0_3.length c0_3, .slice A0_4 l0_4.length c0_4] 26 (0, 0)) (by (with_reducible repeat (first | refine blk_drewN ?_ _ | refine blk_drew ?_ | refine blk_alloc ?_ _)); exact BK203.out)) : gb217 ≠ gb203)); have n11_ := Aside0.mk ((by rw [hg]; exact Nat.ne_of_lt (blk_lt (g := gb204) (o := .cells #[.int .u8 a1_0, .string a1_1, .slice A1_2 l1_2.length c1_2, .slice A1_3 l1_3.length c1_3, .slice A1_4 l1_4.length c1_4] 26 (0, 0)) (by (with_reducible repeat (first | refine blk_drewN ?_ _ | refine blk_drew ?_ | refine blk_alloc ?_ _)); exact BK204.out)) : gb204 ≠ gb217)); have n12_ := Aside0.mk ((by rw [hg]; exact Nat.ne_of_gt (blk_lt (g := gb204) (o := .cells #[.int .u8 a1_0, .string a1_1, .slice A1_2 l1_2.length c1_2, .slice A1_3 l1_3.length c1_3, .slice A1_4 l1_4.length c1_4] 26 (0, 0)) (by (with_reducible repeat (first | refine blk_drewN ?_ _ | refine blk_drew ?_ | refine blk_alloc ?_ _)); exact BK204.out)) : gb217 ≠ gb204)); clear HO210; clear HO213; clear HO216; clear BK203; clear BK204; clear HB; have HO210 := n0_; have HO213 := n1_; have HO216 := n2_; have BK203 := n3_; have BK204 := n4_; have HB := n5_; have BK217 := n6_; have GW217 := n7_; have GE217 := n8_; have NB203_217 := n9_; have NB217_203 := n10_; have NB204_217 := n11_; have NB217_204 := n12_; clear n0_ n1_ n2_ n3_ n4_ n5_ n6_ n7_ n8_ n9_ n10_ n11_ n12_; clear hb hbox hg; have hnb27 := NB217_203.out; have hnc27 := NB203_217.out; have hnb28 := NB217_204.out; have hnc28 := NB204_217.out; have hcz29_0 : w26.cell? ⟨gb217, 0, none⟩ = some (.int .u8 0) := (blk_cell BK217.out 0).trans rfl; have hcz29_1 : w26.cell? ⟨gb217, 1, none⟩ = some (.string (⟨#[]⟩ : ByteArray)) := (blk_cell BK217.out 1).trans rfl; have hcz29_2 : w26.cell? ⟨gb217, 2, none⟩ = some (.slice none 0 0) := (blk_cell BK217.out 2).trans rfl; have hcz29_3 : w26.cell? ⟨gb217, 3, none⟩ = some (.slice none 0 0) := (blk_cell BK217.out 3).trans rfl; have hcz29_4 : w26.cell? ⟨gb217, 4, none⟩ = some (.slice none 0 0) := (blk_cell BK217.out 4).trans rfl; have hfz29_0 := blk_frozen BK217.out 0; have hfz29_1 := blk_frozen BK217.out 1; have hfz29_2 := blk_frozen BK217.out 2; have hfz29_3 := blk_frozen BK217.out 3; have hfz29_4 := blk_frozen BK217.out 4; obtain ⟨Ao30, co30, eo30⟩ := Kd.R_slice HO210.out; subst eo30; obtain ⟨Ao31, co31, eo31⟩ := Kd.R_slice HO213.out; subst eo31; obtain ⟨Ao32, co32, eo32⟩ := Kd.R_slice HO216.out; subst eo32; have hcz33_0 : w26.cell? ⟨gb204, 0, none⟩ = some (.int .u8 a1_0) := (blk_cell BK204.out 0).trans rfl; have hcz33_1 : w26.cell? ⟨gb204, 1, none⟩ = some (.string a1_1) := (blk_cell BK204.out 1).trans rfl; have hcz33_2 : w26.cell? ⟨gb204, 2, none⟩ = some (.slice A1_2 l1_2.length c1_2) := (blk_cell BK204.out 2).trans rfl; have hcz33_3 : w26.cell? ⟨gb204, 3, none⟩ = some (.slice A1_3 l1_3.length c1_3) := (blk_cell BK204.out 3).trans rfl; have hcz33_4 : w26.cell? ⟨gb204, 4, none⟩ = some (.slice A1_4 l1_4.length c1_4) := (blk_cell BK204.out 4).trans rfl; have hfz33_0 := blk_frozen BK204.out 0; have hfz33_1 := blk_frozen BK204.out 1; have hfz33_2 := blk_frozen BK204.out 2; have hfz33_3 := blk_frozen BK204.out 3; have hfz33_4 := blk_frozen BK204.out 4) | ((with_reducible refine gate_callee (f := 40) rfl ?_); refine goesL_ (some 12) rfl rfl Try.func40 (by kernel_rfl) rfl #[.agg #[.int .u8 a1_0, .string a1_1, .slice A1_2 l1_2.length c1_2, .slice A1_3 l1_3.length c1_3, .slice A1_4 l1_4.length c1_4]] rfl (by (try simp only [List.map_toArray, List.map_cons, List.map_nil]); first | done | rfl | (simp only [List.length_drop, List.length_take]; rfl)) ?_; (with_reducible refine (tipstaffref09_Small.calls a1_0 a1_1 _ _ l1_2 _ _ l1_3 _ _ l1_4 t218 t219 t220 t223 t226 _ ?side1 ?side2 ?side3 ?side4 ?side5 ?side6 A5.out).mono ?_); (case side1 => exact Kd.C_below HR1_2.out (by repeat (first | (with_reducible first | exact HB.out | apply below_alloc | apply pw_below_drewN | apply below_drew1 | refine below_set ?_ GE203.out | refine below_set ?_ GE204.out | refine below_set ?_ GE217.out) | exact HB.out))); (case side2 => exact HC1_2.out); (case side3 => exact Kd.C_below HR1_3.out (by repeat (first | (with_reducible first | exact HB.out | apply below_alloc | apply pw_below_drewN | apply below_drew1 | refine below_set ?_ GE203.out | refine below_set ?_ GE204.out | refine below_set ?_ GE217.out) | exact HB.out))); (case side4 => exact HC1_3.out); (case side5 => exact Kd.C_below HR1_4.out (by repeat (first | (with_reducible first | exact HB.out | apply below_alloc | apply pw_below_drewN | apply below_drew1 | refine below_set ?_ GE203.out | refine below_set ?_ GE204.out | refine below_set ?_ GE217.out) | exact HB.out))); (case side6 => exact HC1_4.out); rintro e w34 ⟨v221, v224, v227, rfl, ho0, ho1, ho2, hb⟩; refine ⟨_, rfl, ?_⟩; have n0_ := Aside0.mk (Kd.R_elder' (by (with_reducible repeat (first | apply Kd.R_alloc | apply Kd.R_drewN | apply Kd.R_drew)); exact (Kd.R_mono (Kd.R_far (p := ⟨gb217, 4, none⟩) (Kd.R_far (p := ⟨gb217, 3, none⟩) (Kd.R_far (p := ⟨gb217, 2, none⟩) (Kd.R_far (p := ⟨gb217, 1, none⟩) (Kd.R_far (p := ⟨gb217, 0, none⟩) (Kd.R_types HO210.out BK217.out (by decide)) (fun _ hk => hk.2) (.int .u8 t206)) (fun _ hk => hk.2) (.string t207)) (fun _ hk => hk.2) (.slice Ao30 t208.length co30)) (fun _ hk => hk.2) (.slice Ao31 t211.length co31)) (fun _ hk => hk.2) (.slice Ao32 t214.length co32)) (fun _ h_ => h_.1))) (Kd.R_base ho0) hb); have n1_ := Aside0.mk (Kd.R_elder' (by (with_reducible repeat (first | apply Kd.R_alloc | apply Kd.R_drewN | apply Kd.R_drew)); exact (Kd.R_mono (Kd.R_far (p := ⟨gb217, 4, none⟩) (Kd.R_far (p := ⟨gb217, 3, none⟩) (Kd.R_far (p := ⟨gb217, 2, none⟩) (Kd.R_far (p := ⟨gb217, 1, none⟩) (Kd.R_far (p := ⟨gb217, 0, none⟩) (Kd.R_types HO213.out BK217.out (by decide)) (fun _ hk => hk.2) (.int .u8 t206)) (fun _ hk => hk.2) (.string t207)) (fun _ hk => hk.2) (.slice Ao30 t208.length co30)) (fun _ hk => hk.2) (.slice Ao31 t211.length co31)) (fun _ hk => hk.2) (.slice Ao32 t214.length co32)) (fun _ h_ => h_.1))) (Kd.R_base ho1) hb); have n2_ := Aside0.mk (Kd.R_elder' (by (with_reducible repeat (first | apply Kd.R_alloc | apply Kd.R_drewN | apply Kd.R_drew)); exact (Kd.R_mono (Kd.R_far (p := ⟨gb217, 4, none⟩) (Kd.R_far (p := ⟨gb217, 3, none⟩) (Kd.R_far (p := ⟨gb217, 2, none⟩) (Kd.R_far (p := ⟨gb217, 1, none⟩) (Kd.R_far (p := ⟨gb217, 0, none⟩) (Kd.R_types HO216.out BK217.out (by decide)) (fun _ hk => hk.2) (.int .u8 t206)) (fun _ hk => hk.2) (.string t207)) (fun _ hk => hk.2) (.slice Ao30 t208.length co30)) (fun _ hk => hk.2) (.slice Ao31 t211.length co31)) (fun _ hk => hk.2) (.slice Ao32 t214.length co32)) (fun _ h_ => h_.1))) (Kd.R_base ho2) hb); have n3_ := Aside0.mk (Kd.R_lower (Kd.R_new' ho0 (Kd.R_lt (by (with_reducible repeat (first | apply Kd.R_alloc | apply Kd.R_drewN | apply Kd.R_drew)); exact (Kd.R_mono (Kd.R_far (p := ⟨gb217, 4, none⟩) (Kd.R_far (p := ⟨gb217, 3, none⟩) (Kd.R_far (p := ⟨gb217, 2, none⟩) (Kd.R_far (p := ⟨gb217, 1, none⟩) (Kd.R_far (p := ⟨gb217, 0, none⟩) (Kd.R_types HO210.out BK217.out (by decide)) (fun _ hk => hk.2) (.int .u8 t206)) (fun _ hk => hk.2) (.string t207)) (fun _ hk => hk.2) (.slice Ao30 t208.length co30)) (fun _ hk => hk.2) (.slice Ao31 t211.length co31)) (fun _ hk => hk.2) (.slice Ao32 t214.length co32)) (fun _ h_ => h_.1))))) (below_size (by repeat (first | (with_reducible first | exact HB.out | apply below_alloc | apply pw_below_drewN | apply below_drew1 | refine below_set ?_ GE203.out | refine below_set ?_ GE204.out | refine below_set ?_ GE217.out) | exact HB.out)))); have n4_ := Aside0.mk (Kd.R_lower (Kd.R_new' ho1 (Kd.R_lt (by (with_reducible repeat (first | apply Kd.R_alloc | apply Kd.R_drewN | apply Kd.R_drew)); exact (Kd.R_mono (Kd.R_far (p := ⟨gb217, 4, none⟩) (Kd.R_far (p := ⟨gb217, 3, none⟩) (Kd.R_far (p := ⟨gb217, 2, none⟩) (Kd.R_far (p := ⟨gb217, 1, none⟩) (Kd.R_far (p := ⟨gb217, 0, none⟩) (Kd.R_types HO213.out BK217.out (by decide)) (fun _ hk => hk.2) (.int .u8 t206)) (fun _ hk => hk.2) (.string t207)) (fun _ hk => hk.2) (.slice Ao30 t208.length co30)) (fun _ hk => hk.2) (.slice Ao31 t211.length co31)) (fun _ hk => hk.2) (.slice Ao32 t214.length co32)) (fun _ h_ => h_.1))))) (below_size (by repeat (first | (with_reducible first | exact HB.out | apply below_alloc | apply pw_below_drewN | apply below_drew1 | refine below_set ?_ GE203.out | refine below_set ?_ GE204.out | refine below_set ?_ GE217.out) | exact HB.out)))); have n5_ := Aside0.mk (Kd.R_lower (Kd.R_new' ho2 (Kd.R_lt (by (with_reducible repeat (first | apply Kd.R_alloc | apply Kd.R_drewN | apply Kd.R_drew)); exact (Kd.R_mono (Kd.R_far (p := ⟨gb217, 4, none⟩) (Kd.R_far (p := ⟨gb217, 3, none⟩) (Kd.R_far (p := ⟨gb217, 2, none⟩) (Kd.R_far (p := ⟨gb217, 1, none⟩) (Kd.R_far (p := ⟨gb217, 0, none⟩) (Kd.R_types HO216.out BK217.out (by decide)) (fun _ hk => hk.2) (.int .u8 t206)) (fun _ hk => hk.2) (.string t207)) (fun _ hk => hk.2) (.slice Ao30 t208.length co30)) (fun _ hk => hk.2) (.slice Ao31 t211.length co31)) (fun _ hk => hk.2) (.slice Ao32 t214.length co32)) (fun _ h_ => h_.1))))) (below_size (by repeat (first | (with_reducible first | exact HB.out | apply below_alloc | apply pw_below_drewN | apply below_drew1 | refine below_set ?_ GE203.out | refine below_set ?_ GE204.out | refine below_set ?_ GE217.out) | exact HB.out)))); have n6_ := Aside0.mk (blk_below (g := gb203) (o := .cells #[.int .u8 a0_0, .string a0_1, .slice A0_2 l0_2.length c0_2, .slice A0_3 l0_3.length c0_3, .slice A0_4 l0_4.length c0_4] 26 (0, 0)) (by (with_reducible repeat (first | refine blk_drewN ?_ _ | refine blk_drew ?_ | refine blk_alloc ?_ _)); refine blk_far ?_ NB203_217.out _; (with_reducible repeat (first | refine blk_drewN ?_ _ | refine blk_drew ?_ | refine blk_alloc ?_ _)); refine blk_far ?_ NB203_217.out _; (with_reducible repeat (first | refine blk_drewN ?_ _ | refine blk_drew ?_ | refine blk_alloc ?_ _)); refine blk_far ?_ NB203_217.out _; (with_reducible repeat (first | refine blk_drewN ?_ _ | refine blk_drew ?_ | refine blk_alloc ?_ _)); refine blk_far ?_ NB203_217.out _; (with_reducible repeat (first | refine blk_drewN ?_ _ | refine blk_drew ?_ | refine blk_alloc ?_ _)); refine blk_far ?_ NB203_217.out _; (with_reducible repeat (first | refine blk_drewN ?_ _ | refine blk_drew ?_ | refine blk_alloc ?_ _)); exact BK203.out) hb); have n7_ := Aside0.mk (blk_below (g := gb204) (o := .cells #[.int .u8 a1_0, .string a1_1, .slice A1_2 l1_2.length c1_2, .slice A1_3 l1_3.length c1_3, .slice A1_4 l1_4.length c1_4] 26 (0, 0)) (by (with_reducible repeat (first | refine blk_drewN ?_ _ | refine blk_drew ?_ | refine blk_alloc ?_ _)); refine blk_far ?_ NB204_217.out _; (with_reducible repeat (first | refine blk_drewN ?_ _ | refine blk_drew ?_ | refine blk_alloc ?_ _)); refine blk_far ?_ NB204_217.out _; (with_reducible repeat (first | refine blk_drewN ?_ _ | refine blk_drew ?_ | refine blk_alloc ?_ _)); refine blk_far ?_ NB204_217.out _; (with_reducible repeat (first | refine blk_drewN ?_ _ | refine blk_drew ?_ | refine blk_alloc ?_ _)); refine blk_far ?_ NB204_217.out _; (with_reducible repeat (first | refine blk_drewN ?_ _ | refine blk_drew ?_ | refine blk_alloc ?_ _)); refine blk_far ?_ NB204_217.out _; (with_reducible repeat (first | refine blk_drewN ?_ _ | refine blk_drew ?_ | refine blk_alloc ?_ _)); exact BK204.out) hb); have n8_ := Aside0.mk (blk_below (g := gb217) (o := .cells #[.int .u8 t206, .string t207, .slice Ao30 t208.length co30, .slice Ao31 t211.length co31, .slice Ao32 t214.length co32] 26 (0, 0)) (by (with_reducible repeat (first | refine blk_drewN ?_ _ | refine blk_drew ?_ | refine blk_alloc ?_ _)); refine blk_put (cs := #[.int .u8 t206, .string t207, .slice Ao30 t208.length co30, .slice Ao31 t211.length co31, .slice none 0 0]) ?_ 4 _ rfl; (with_reducible repeat (first | refine blk_drewN ?_ _ | refine blk_drew ?_ | refine blk_alloc ?_ _)); refine blk_put (cs := #[.int .u8 t206, .string t207, .slice Ao30 t208.length co30, .slice none 0 0, .slice none 0 0]) ?_ 3 _ rfl; (with_reducible repeat (first | refine blk_drewN ?_ _ | refine blk_drew ?_ | refine blk_alloc ?_ _)); refine blk_put (cs := #[.int .u8 t206, .string t207, .slice none 0 0, .slice none 0 0, .slice none 0 0]) ?_ 2 _ rfl; (with_reducible repeat (first | refine blk_drewN ?_ _ | refine blk_drew ?_ | refine blk_alloc ?_ _)); refine blk_put (cs := #[.int .u8 t206, .string (⟨#[]⟩ : ByteArray), .slice none 0 0, .slice none 0 0, .slice none 0 0]) ?_ 1 _ rfl; (with_reducible repeat (first | refine blk_drewN ?_ _ | refine blk_drew ?_ | refine blk_alloc ?_ _)); refine blk_put (cs := #[.int .u8 0, .string (⟨#[]⟩ : ByteArray), .slice none 0 0, .slice none 0 0, .slice none 0 0]) ?_ 0 _ rfl; (with_reducible repeat (first | refine blk_drewN ?_ _ | refine blk_drew ?_ | refine blk_alloc ?_ _)); exact BK217.out) hb); have n9_ := Aside0.mk (below_step (by repeat (first | (with_reducible first | exact HB.out | apply below_alloc | apply pw_below_drewN | apply below_drew1 | refine below_set ?_ GE203.out | refine below_set ?_ GE204.out | refine below_set ?_ GE217.out) | exact HB.out)) hb); clear HO210; clear HO213; clear HO216; clear BK203; clear BK204; clear BK217; clear HB; have HO210 := n0_; have HO213 := n1_; have HO216 := n2_; have HO222 := n3_; have HO225 := n4_; have HO228 := n5_; have BK203 := n6_; have BK204 := n7_; have BK217 := n8_; have HB := n9_; clear n0_ n1_ n2_ n3_ n4_ n5_ n6_ n7_ n8_ n9_; (try clear hb); (try clear hb2); (try clear hk); (try clear hi); (try clear ho0); (try clear ho1); (try clear ho2)) | ((with_reducible refine gate_dst (N := 7) rfl ?_); refine box_event ?hg (N := 7) ?hd (cs := #[.int .u8 0, .string (⟨#[]⟩ : ByteArray), .slice none 0 0, .slice none 0 0, .slice none 0 0]) (t := 26) ?hr ?_; (case hd => rfl); (case hg => rfl); (case hr => first | (go_simp; done) | (go_simp; rfl)); intro gb229 hg w35 hbox hb; have n0_ := Aside0.mk (Kd.R_below (by (with_reducible repeat (first | apply Kd.R_alloc | apply Kd.R_drewN | apply Kd.R_drew)); exact HO210.out) hb); have n1_ := Aside0.mk (Kd.R_below (by (with_reducible repeat (first | apply Kd.R_alloc | apply Kd.R_drewN | apply Kd.R_drew)); exact HO213.out) hb); have n2_ := Aside0.mk (Kd.R_below (by (with_reducible repeat (first | apply Kd.R_alloc | apply Kd.R_drewN | apply Kd.R_drew)); exact HO216.out) hb); have n3_ := Aside0.mk (Kd.R_below (by (with_reducible repeat (first | apply Kd.R_alloc | apply Kd.R_drewN | apply Kd.R_drew)); exact HO222.out) hb); have n4_ := Aside0.mk (Kd.R_below (by (with_reducible repeat (first | apply Kd.R_alloc | apply Kd.R_drewN | apply Kd.R_drew)); exact HO225.out) hb); have n5_ := Aside0.mk (Kd.R_below (by (with_reducible repeat (first | apply Kd.R_alloc | apply Kd.R_drewN | apply Kd.R_drew)); exact HO228.out) hb); have n6_ := Aside0.mk (blk_below (g := gb203) (o := .cells #[.int .u8 a0_0, .string a0_1, .slice A0_2 l0_2.length c0_2, .slice A0_3 l0_3.length c0_3, .slice A0_4 l0_4.length c0_4] 26 (0, 0)) (by (with_reducible repeat (first | refine blk_drewN ?_ _ | refine blk_drew ?_ | refine blk_alloc ?_ _)); exact BK203.out) hb); have n7_ := Aside0.mk (blk_below (g := gb204) (o := .cells #[.int .u8 a1_0, .string a1_1, .slice A1_2 l1_2.length c1_2, .slice A1_3 l1_3.length c1_3, .slice A1_4 l1_4.length c1_4] 26 (0, 0)) (by (with_reducible repeat (first | refine blk_drewN ?_ _ | refine blk_drew ?_ | refine blk_alloc ?_ _)); exact BK204.out) hb); have n8_ := Aside0.mk (blk_below (g := gb217) (o := .cells #[.int .u8 t206, .string t207, .slice Ao30 t208.length co30, .slice Ao31 t211.length co31, .slice Ao32 t214.length co32] 26 (0, 0)) (by (with_reducible repeat (first | refine blk_drewN ?_ _ | refine blk_drew ?_ | refine blk_alloc ?_ _)); exact BK217.out) hb); have n9_ := Aside0.mk (below_step (by repeat (first | (with_reducible first | exact HB.out | apply below_alloc | apply pw_below_drewN | apply below_drew1 | refine below_set ?_ GE203.out | refine below_set ?_ GE204.out | refine below_set ?_ GE217.out) | exact HB.out)) hb); have n10_ := Aside0.mk (hbox); have n11_ := Aside0.mk ((by rw [hg]; exact (below_size (by repeat (first | (with_reducible first | exact HB.out | apply below_alloc | apply pw_below_drewN | apply below_drew1 | refine below_set ?_ GE203.out | refine below_set ?_ GE204.out | refine below_set ?_ GE217.out) | exact HB.out))) : w.heap.size ≤ gb229)); have n12_ := Aside0.mk ((by rw [hg]; exact (below_size (by repeat (first | (with_reducible first | exact HB.out | apply below_alloc | apply pw_below_drewN | apply below_drew1 | refine below_set ?_ GE203.out | refine below_set ?_ GE204.out | refine below_set ?_ GE217.out) | exact HB.out))) : w.heap.size ≤ gb229)); have n13_ := Aside0.mk ((by rw [hg]; exact Nat.ne_of_lt (blk_lt (g := gb203) (o := .cells #[.int .u8 a0_0, .string a0_1, .slice A0_2 l0_2.length c0_2, .slice A0_3 l0_3.length c0_3, .slice A0_4 l0_4.length c0_4] 26 (0, 0)) (by (with_reducible repeat (first | refine blk_drewN ?_ _ | refine blk_drew ?_ | refine blk_alloc ?_ _)); exact BK203.out)) : gb203 ≠ gb229)); have n14_ := Aside0.mk ((by rw [hg]; exact Nat.ne_of_gt (blk_lt (g := gb203) (o := .cells #[.int .u8 a0_0, .string a0_1, .slice A0_2 l0_2.length c0_2, .slice A0_3 l0_3.length c0_3, .slice A0_4 l0_4.length c0_4] 26 (0, 0)) (by (with_reducible repeat (first | refine blk_drewN ?_ _ | refine blk_drew ?_ | refine blk_alloc ?_ _)); exact BK203.out)) : gb229 ≠ gb203)); have n15_ := Aside0.mk ((by rw [hg]; exact Nat.ne_of_lt (blk_lt (g := gb204) (o := .cells #[.int .u8 a1_0, .string a1_1, .slice A1_2 l1_2.length c1_2, .slice A1_3 l1_3.length c1_3, .slice A1_4 l1_4.length c1_4] 26 (0, 0)) (by (with_reducible repeat (first | refine blk_drewN ?_ _ | refine blk_drew ?_ | refine blk_alloc ?_ _)); exact BK204.out)) : gb204 ≠ gb229)); have n16_ := Aside0.mk ((by rw [hg]; exact Nat.ne_of_gt (blk_lt (g := gb204) (o := .cells #[.int .u8 a1_0, .string a1_1, .slice A1_2 l1_2.length c1_2, .slice A1_3 l1_3.length c1_3, .slice A1_4 l1_4.length c1_4] 26 (0, 0)) (by (with_reducible repeat (first | refine blk_drewN ?_ _ | refine blk_drew ?_ | refine blk_alloc ?_ _)); exact BK204.out)) : gb229 ≠ gb204)); have n17_ := Aside0.mk ((by rw [hg]; exact Nat.ne_of_lt (blk_lt (g := gb217) (o := .cells #[.int .u8 t206, .string t207, .slice Ao30 t208.length co30, .slice Ao31 t211.length co31, .slice Ao32 t214.length co32] 26 (0, 0)) (by (with_reducible repeat (first | refine blk_drewN ?_ _ | refine blk_drew ?_ | refine blk_alloc ?_ _)); exact BK217.out)) : gb217 ≠ gb229)); have n18_ := Aside0.mk ((by rw [hg]; exact Nat.ne_of_gt (blk_lt (g := gb217) (o := .cells #[.int .u8 t206, .string t207, .slice Ao30 t208.length co30, .slice Ao31 t211.length co31, .slice Ao32 t214.length co32] 26 (0, 0)) (by (with_reducible repeat (first | refine blk_drewN ?_ _ | refine blk_drew ?_ | refine blk_alloc ?_ _)); exact BK217.out)) : gb229 ≠ gb217)); clear HO210; clear HO213; clear HO216; clear HO222; clear HO225; clear HO228; clear BK203; clear BK204; clear BK217; clear HB; have HO210 := n0_; have HO213 := n1_; have HO216 := n2_; have HO222 := n3_; have HO225 := n4_; have HO228 := n5_; have BK203 := n6_; have BK204 := n7_; have BK217 := n8_; have HB := n9_; have BK229 := n10_; have GW229 := n11_; have GE229 := n12_; have NB203_229 := n13_; have NB229_203 := n14_; have NB204_229 := n15_; have NB229_204 := n16_; have NB217_229 := n17_; have NB229_217 := n18_; clear n0_ n1_ n2_ n3_ n4_ n5_ n6_ n7_ n8_ n9_ n10_ n11_ n12_ n13_ n14_ n15_ n16_ n17_ n18_; clear hb hbox hg; have hnb36 := NB229_203.out; have hnc36 := NB203_229.out; have hnb37 := NB229_204.out; have hnc37 := NB204_229.out; have hnb38 := NB229_217.out; have hnc38 := NB217_229.out; have hcz39_0 : w35.cell? ⟨gb229, 0, none⟩ = some (.int .u8 0) := (blk_cell BK229.out 0).trans rfl; have hcz39_1 : w35.cell? ⟨gb229, 1, none⟩ = some (.string (⟨#[]⟩ : ByteArray)) := (blk_cell BK229.out 1).trans rfl; have hcz39_2 : w35.cell? ⟨gb229, 2, none⟩ = some (.slice none 0 0) := (blk_cell BK229.out 2).trans rfl; have hcz39_3 : w35.cell? ⟨gb229, 3, none⟩ = some (.slice none 0 0) := (blk_cell BK229.out 3).trans rfl; have hcz39_4 : w35.cell? ⟨gb229, 4, none⟩ = some (.slice none 0 0) := (blk_cell BK229.out 4).trans rfl; have hfz39_0 := blk_frozen BK229.out 0; have hfz39_1 := blk_frozen BK229.out 1; have hfz39_2 := blk_frozen BK229.out 2; have hfz39_3 := blk_frozen BK229.out 3; have hfz39_4 := blk_frozen BK229.out 4; obtain ⟨Ao40, co40, eo40⟩ := Kd.R_slice HO222.out; subst eo40; obtain ⟨Ao41, co41, eo41⟩ := Kd.R_slice HO225.out; subst eo41; obtain ⟨Ao42, co42, eo42⟩ := Kd.R_slice HO228.out; subst eo42))
            have n0_ : Aside0 (Kd.R Kd.string 9 (((((w35.setCell ⟨gb229, 0, none⟩ (.int .u8 t218)).setCell ⟨gb229, 1, none⟩ (.string t219)).setCell ⟨gb229, 2, none⟩ (.slice Ao40 t220.length co40)).setCell ⟨gb229, 3, none⟩ (.slice Ao41 t223.length co41)).setCell ⟨gb229, 4, none⟩ (.slice Ao42 t226.length co42)) w.heap.size (fun k_ => some k_ ≠ (.slice Ao40 t220.length co40 : Value).ownBlock) (.slice Ao30 t208.length co30) t208) := ⟨by (with_reducible repeat (first | apply Kd.R_alloc | apply Kd.R_drewN | apply Kd.R_drew)); exact Kd.R_mono (Kd.R_far (p := ⟨gb229, 4, none⟩) (Kd.R_far (p := ⟨gb229, 3, none⟩) (Kd.R_far (p := ⟨gb229, 2, none⟩) (Kd.R_far (p := ⟨gb229, 1, none⟩) (Kd.R_far (p := ⟨gb229, 0, none⟩) (Kd.R_types HO210.out BK229.out (by decide)) (fun _ hk => hk.2) (.int .u8 t218)) (fun _ hk => hk.2) (.string t219)) (fun _ hk => hk.2) (.slice Ao40 t220.length co40)) (fun _ hk => hk.2) (.slice Ao41 t223.length co41)) (fun _ hk => hk.2) (.slice Ao42 t226.length co42)) (fun _ hk => hk.1.2)⟩
            have n1_ : Aside0 (Kd.R k60 60 (((((w35.setCell ⟨gb229, 0, none⟩ (.int .u8 t218)).setCell ⟨gb229, 1, none⟩ (.string t219)).setCell ⟨gb229, 2, none⟩ (.slice Ao40 t220.length co40)).setCell ⟨gb229, 3, none⟩ (.slice Ao41 t223.length co41)).setCell ⟨gb229, 4, none⟩ (.slice Ao42 t226.length co42)) w.heap.size (fun k_ => some k_ ≠ (.slice Ao41 t223.length co41 : Value).ownBlock) (.slice Ao31 t211.length co31) t211) := ⟨by (with_reducible repeat (first | apply Kd.R_alloc | apply Kd.R_drewN | apply Kd.R_drew)); exact Kd.R_mono (Kd.R_far (p := ⟨gb229, 4, none⟩) (Kd.R_far (p := ⟨gb229, 3, none⟩) (Kd.R_far (p := ⟨gb229, 2, none⟩) (Kd.R_far (p := ⟨gb229, 1, none⟩) (Kd.R_far (p := ⟨gb229, 0, none⟩) (Kd.R_types HO213.out BK229.out (by decide)) (fun _ hk => hk.2) (.int .u8 t218)) (fun _ hk => hk.2) (.string t219)) (fun _ hk => hk.2) (.slice Ao40 t220.length co40)) (fun _ hk => hk.2) (.slice Ao41 t223.length co41)) (fun _ hk => hk.2) (.slice Ao42 t226.length co42)) (fun _ hk => hk.1.2)⟩
            have n2_ : Aside0 (Kd.R k62 62 (((((w35.setCell ⟨gb229, 0, none⟩ (.int .u8 t218)).setCell ⟨gb229, 1, none⟩ (.string t219)).setCell ⟨gb229, 2, none⟩ (.slice Ao40 t220.length co40)).setCell ⟨gb229, 3, none⟩ (.slice Ao41 t223.length co41)).setCell ⟨gb229, 4, none⟩ (.slice Ao42 t226.length co42)) w.heap.size (fun k_ => some k_ ≠ (.slice Ao42 t226.length co42 : Value).ownBlock) (.slice Ao32 t214.length co32) t214) := ⟨by (with_reducible repeat (first | apply Kd.R_alloc | apply Kd.R_drewN | apply Kd.R_drew)); exact Kd.R_mono (Kd.R_far (p := ⟨gb229, 4, none⟩) (Kd.R_far (p := ⟨gb229, 3, none⟩) (Kd.R_far (p := ⟨gb229, 2, none⟩) (Kd.R_far (p := ⟨gb229, 1, none⟩) (Kd.R_far (p := ⟨gb229, 0, none⟩) (Kd.R_types HO216.out BK229.out (by decide)) (fun _ hk => hk.2) (.int .u8 t218)) (fun _ hk => hk.2) (.string t219)) (fun _ hk => hk.2) (.slice Ao40 t220.length co40)) (fun _ hk => hk.2) (.slice Ao41 t223.length co41)) (fun _ hk => hk.2) (.slice Ao42 t226.length co42)) (fun _ hk => hk.1.2)⟩
            have n3_ : Aside0 (Kd.R Kd.string 9 (((((w35.setCell ⟨gb229, 0, none⟩ (.int .u8 t218)).setCell ⟨gb229, 1, none⟩ (.string t219)).setCell ⟨gb229, 2, none⟩ (.slice Ao40 t220.length co40)).setCell ⟨gb229, 3, none⟩ (.slice Ao41 t223.length co41)).setCell ⟨gb229, 4, none⟩ (.slice Ao42 t226.length co42)) w.heap.size (fun k_ => some k_ ≠ (.slice Ao30 t208.length co30 : Value).ownBlock) (.slice Ao40 t220.length co40) t220) := ⟨by (with_reducible repeat (first | apply Kd.R_alloc | apply Kd.R_drewN | apply Kd.R_drew)); exact Kd.R_mono (Kd.R_far (p := ⟨gb229, 4, none⟩) (Kd.R_far (p := ⟨gb229, 3, none⟩) (Kd.R_far (p := ⟨gb229, 2, none⟩) (Kd.R_far (p := ⟨gb229, 1, none⟩) (Kd.R_far (p := ⟨gb229, 0, none⟩) (Kd.R_types HO222.out BK229.out (by decide)) (fun _ hk => hk.2) (.int .u8 t218)) (fun _ hk => hk.2) (.string t219)) (fun _ hk => hk.2) (.slice Ao40 t220.length co40)) (fun _ hk => hk.2) (.slice Ao41 t223.length co41)) (fun _ hk => hk.2) (.slice Ao42 t226.length co42)) (fun _ hk => hk.1.2)⟩
            have n4_ : Aside0 (Kd.R k60 60 (((((w35.setCell ⟨gb229, 0, none⟩ (.int .u8 t218)).setCell ⟨gb229, 1, none⟩ (.string t219)).setCell ⟨gb229, 2, none⟩ (.slice Ao40 t220.length co40)).setCell ⟨gb229, 3, none⟩ (.slice Ao41 t223.length co41)).setCell ⟨gb229, 4, none⟩ (.slice Ao42 t226.length co42)) w.heap.size (fun k_ => some k_ ≠ (.slice Ao31 t211.length co31 : Value).ownBlock) (.slice Ao41 t223.length co41) t223) := ⟨by (with_reducible repeat (first | apply Kd.R_alloc | apply Kd.R_drewN | apply Kd.R_drew)); exact Kd.R_mono (Kd.R_far (p := ⟨gb229, 4, none⟩) (Kd.R_far (p := ⟨gb229, 3, none⟩) (Kd.R_far (p := ⟨gb229, 2, none⟩) (Kd.R_far (p := ⟨gb229, 1, none⟩) (Kd.R_far (p := ⟨gb229, 0, none⟩) (Kd.R_types HO225.out BK229.out (by decide)) (fun _ hk => hk.2) (.int .u8 t218)) (fun _ hk => hk.2) (.string t219)) (fun _ hk => hk.2) (.slice Ao40 t220.length co40)) (fun _ hk => hk.2) (.slice Ao41 t223.length co41)) (fun _ hk => hk.2) (.slice Ao42 t226.length co42)) (fun _ hk => hk.1.2)⟩
            have n5_ : Aside0 (Kd.R k62 62 (((((w35.setCell ⟨gb229, 0, none⟩ (.int .u8 t218)).setCell ⟨gb229, 1, none⟩ (.string t219)).setCell ⟨gb229, 2, none⟩ (.slice Ao40 t220.length co40)).setCell ⟨gb229, 3, none⟩ (.slice Ao41 t223.length co41)).setCell ⟨gb229, 4, none⟩ (.slice Ao42 t226.length co42)) w.heap.size (fun k_ => some k_ ≠ (.slice Ao32 t214.length co32 : Value).ownBlock) (.slice Ao42 t226.length co42) t226) := ⟨by (with_reducible repeat (first | apply Kd.R_alloc | apply Kd.R_drewN | apply Kd.R_drew)); exact Kd.R_mono (Kd.R_far (p := ⟨gb229, 4, none⟩) (Kd.R_far (p := ⟨gb229, 3, none⟩) (Kd.R_far (p := ⟨gb229, 2, none⟩) (Kd.R_far (p := ⟨gb229, 1, none⟩) (Kd.R_far (p := ⟨gb229, 0, none⟩) (Kd.R_types HO228.out BK229.out (by decide)) (fun _ hk => hk.2) (.int .u8 t218)) (fun _ hk => hk.2) (.string t219)) (fun _ hk => hk.2) (.slice Ao40 t220.length co40)) (fun _ hk => hk.2) (.slice Ao41 t223.length co41)) (fun _ hk => hk.2) (.slice Ao42 t226.length co42)) (fun _ hk => hk.1.2)⟩
            have n6_ : Aside0 ((((((w35.setCell ⟨gb229, 0, none⟩ (.int .u8 t218)).setCell ⟨gb229, 1, none⟩ (.string t219)).setCell ⟨gb229, 2, none⟩ (.slice Ao40 t220.length co40)).setCell ⟨gb229, 3, none⟩ (.slice Ao41 t223.length co41)).setCell ⟨gb229, 4, none⟩ (.slice Ao42 t226.length co42)).heap[gb203]? = some (.cells #[.int .u8 a0_0, .string a0_1, .slice A0_2 l0_2.length c0_2, .slice A0_3 l0_3.length c0_3, .slice A0_4 l0_4.length c0_4] 26 (0, 0))) := ⟨by (with_reducible repeat (first | refine blk_drewN ?_ _ | refine blk_drew ?_ | refine blk_alloc ?_ _)); refine blk_far ?_ NB203_229.out _; (with_reducible repeat (first | refine blk_drewN ?_ _ | refine blk_drew ?_ | refine blk_alloc ?_ _)); refine blk_far ?_ NB203_229.out _; (with_reducible repeat (first | refine blk_drewN ?_ _ | refine blk_drew ?_ | refine blk_alloc ?_ _)); refine blk_far ?_ NB203_229.out _; (with_reducible repeat (first | refine blk_drewN ?_ _ | refine blk_drew ?_ | refine blk_alloc ?_ _)); refine blk_far ?_ NB203_229.out _; (with_reducible repeat (first | refine blk_drewN ?_ _ | refine blk_drew ?_ | refine blk_alloc ?_ _)); refine blk_far ?_ NB203_229.out _; (with_reducible repeat (first | refine blk_drewN ?_ _ | refine blk_drew ?_ | refine blk_alloc ?_ _)); exact BK203.out⟩
            have n7_ : Aside0 ((((((w35.setCell ⟨gb229, 0, none⟩ (.int .u8 t218)).setCell ⟨gb229, 1, none⟩ (.string t219)).setCell ⟨gb229, 2, none⟩ (.slice Ao40 t220.length co40)).setCell ⟨gb229, 3, none⟩ (.slice Ao41 t223.length co41)).setCell ⟨gb229, 4, none⟩ (.slice Ao42 t226.length co42)).heap[gb204]? = some (.cells #[.int .u8 a1_0, .string a1_1, .slice A1_2 l1_2.length c1_2, .slice A1_3 l1_3.length c1_3, .slice A1_4 l1_4.length c1_4] 26 (0, 0))) := ⟨by (with_reducible repeat (first | refine blk_drewN ?_ _ | refine blk_drew ?_ | refine blk_alloc ?_ _)); refine blk_far ?_ NB204_229.out _; (with_reducible repeat (first | refine blk_drewN ?_ _ | refine blk_drew ?_ | refine blk_alloc ?_ _)); refine blk_far ?_ NB204_229.out _; (with_reducible repeat (first | refine blk_drewN ?_ _ | refine blk_drew ?_ | refine blk_alloc ?_ _)); refine blk_far ?_ NB204_229.out _; (with_reducible repeat (first | refine blk_drewN ?_ _ | refine blk_drew ?_ | refine blk_alloc ?_ _)); refine blk_far ?_ NB204_229.out _; (with_reducible repeat (first | refine blk_drewN ?_ _ | refine blk_drew ?_ | refine blk_alloc ?_ _)); refine blk_far ?_ NB204_229.out _; (with_reducible repeat (first | refine blk_drewN ?_ _ | refine blk_drew ?_ | refine blk_alloc ?_ _)); exact BK204.out⟩
            have n8_ : Aside0 ((((((w35.setCell ⟨gb229, 0, none⟩ (.int .u8 t218)).setCell ⟨gb229, 1, none⟩ (.string t219)).setCell ⟨gb229, 2, none⟩ (.slice Ao40 t220.length co40)).setCell ⟨gb229, 3, none⟩ (.slice Ao41 t223.length co41)).setCell ⟨gb229, 4, none⟩ (.slice Ao42 t226.length co42)).heap[gb217]? = some (.cells #[.int .u8 t206, .string t207, .slice Ao30 t208.length co30, .slice Ao31 t211.length co31, .slice Ao32 t214.length co32] 26 (0, 0))) := ⟨by (with_reducible repeat (first | refine blk_drewN ?_ _ | refine blk_drew ?_ | refine blk_alloc ?_ _)); refine blk_far ?_ NB217_229.out _; (with_reducible repeat (first | refine blk_drewN ?_ _ | refine blk_drew ?_ | refine blk_alloc ?_ _)); refine blk_far ?_ NB217_229.out _; (with_reducible repeat (first | refine blk_drewN ?_ _ | refine blk_drew ?_ | refine blk_alloc ?_ _)); refine blk_far ?_ NB217_229.out _; (with_reducible repeat (first | refine blk_drewN ?_ _ | refine blk_drew ?_ | refine blk_alloc ?_ _)); refine blk_far ?_ NB217_229.out _; (with_reducible repeat (first | refine blk_drewN ?_ _ | refine blk_drew ?_ | refine blk_alloc ?_ _)); refine blk_far ?_ NB217_229.out _; (with_reducible repeat (first | refine blk_drewN ?_ _ | refine blk_drew ?_ | refine blk_alloc ?_ _)); exact BK217.out⟩
            have n9_ : Aside0 ((((((w35.setCell ⟨gb229, 0, none⟩ (.int .u8 t218)).setCell ⟨gb229, 1, none⟩ (.string t219)).setCell ⟨gb229, 2, none⟩ (.slice Ao40 t220.length co40)).setCell ⟨gb229, 3, none⟩ (.slice Ao41 t223.length co41)).setCell ⟨gb229, 4, none⟩ (.slice Ao42 t226.length co42)).heap[gb229]? = some (.cells #[.int .u8 t218, .string t219, .slice Ao40 t220.length co40, .slice Ao41 t223.length co41, .slice Ao42 t226.length co42] 26 (0, 0))) := ⟨by (with_reducible repeat (first | refine blk_drewN ?_ _ | refine blk_drew ?_ | refine blk_alloc ?_ _)); refine blk_put (cs := #[.int .u8 t218, .string t219, .slice Ao40 t220.length co40, .slice Ao41 t223.length co41, .slice none 0 0]) ?_ 4 _ rfl; (with_reducible repeat (first | refine blk_drewN ?_ _ | refine blk_drew ?_ | refine blk_alloc ?_ _)); refine blk_put (cs := #[.int .u8 t218, .string t219, .slice Ao40 t220.length co40, .slice none 0 0, .slice none 0 0]) ?_ 3 _ rfl; (with_reducible repeat (first | refine blk_drewN ?_ _ | refine blk_drew ?_ | refine blk_alloc ?_ _)); refine blk_put (cs := #[.int .u8 t218, .string t219, .slice none 0 0, .slice none 0 0, .slice none 0 0]) ?_ 2 _ rfl; (with_reducible repeat (first | refine blk_drewN ?_ _ | refine blk_drew ?_ | refine blk_alloc ?_ _)); refine blk_put (cs := #[.int .u8 t218, .string (⟨#[]⟩ : ByteArray), .slice none 0 0, .slice none 0 0, .slice none 0 0]) ?_ 1 _ rfl; (with_reducible repeat (first | refine blk_drewN ?_ _ | refine blk_drew ?_ | refine blk_alloc ?_ _)); refine blk_put (cs := #[.int .u8 0, .string (⟨#[]⟩ : ByteArray), .slice none 0 0, .slice none 0 0, .slice none 0 0]) ?_ 0 _ rfl; (with_reducible repeat (first | refine blk_drewN ?_ _ | refine blk_drew ?_ | refine blk_alloc ?_ _)); exact BK229.out⟩
            have n10_ : Aside0 (Below w.heap.size w (((((w35.setCell ⟨gb229, 0, none⟩ (.int .u8 t218)).setCell ⟨gb229, 1, none⟩ (.string t219)).setCell ⟨gb229, 2, none⟩ (.slice Ao40 t220.length co40)).setCell ⟨gb229, 3, none⟩ (.slice Ao41 t223.length co41)).setCell ⟨gb229, 4, none⟩ (.slice Ao42 t226.length co42))) := ⟨by repeat (first | (with_reducible first | exact HB.out | apply below_alloc | apply pw_below_drewN | apply below_drew1 | refine below_set ?_ GE203.out | refine below_set ?_ GE204.out | refine below_set ?_ GE217.out | refine below_set ?_ GE229.out) | exact HB.out)⟩
            (try clear HO210)
            (try clear HO213)
            (try clear HO216)
            (try clear HO222)
            (try clear HO225)
            (try clear HO228)
            (try clear BK203)
            (try clear BK204)
            (try clear BK217)
            (try clear BK229)
            (try clear HB)
            generalize (((((w35.setCell ⟨gb229, 0, none⟩ (.int .u8 t218)).setCell ⟨gb229, 1, none⟩ (.string t219)).setCell ⟨gb229, 2, none⟩ (.slice Ao40 t220.length co40)).setCell ⟨gb229, 3, none⟩ (.slice Ao41 t223.length co41)).setCell ⟨gb229, 4, none⟩ (.slice Ao42 t226.length co42)) = w43 at n0_ n1_ n2_ n3_ n4_ n5_ n6_ n7_ n8_ n9_ n10_ ⊢
            have HO210 := n0_
            have HO213 := n1_
            have HO216 := n2_
            have HO222 := n3_
            have HO225 := n4_
            have HO228 := n5_
            have BK203 := n6_
            have BK204 := n7_
            have BK217 := n8_
            have BK229 := n9_
            have HB := n10_
            clear n0_ n1_ n2_ n3_ n4_ n5_ n6_ n7_ n8_ n9_ n10_
            have n0_ := Aside0.mk (Kd.R_drew HO210.out)
            have n1_ := Aside0.mk (Kd.R_drew HO213.out)
            have n2_ := Aside0.mk (Kd.R_drew HO216.out)
            have n3_ := Aside0.mk (Kd.R_drew HO222.out)
            have n4_ := Aside0.mk (Kd.R_drew HO225.out)
            have n5_ := Aside0.mk (Kd.R_drew HO228.out)
            have n6_ := Aside0.mk (blk_drew BK203.out)
            have n7_ := Aside0.mk (blk_drew BK204.out)
            have n8_ := Aside0.mk (blk_drew BK217.out)
            have n9_ := Aside0.mk (blk_drew BK229.out)
            have n10_ := Aside0.mk (below_drew1 HB.out)
            clear HO210
            clear HO213
            clear HO216
            clear HO222
            clear HO225
            clear HO228
            clear BK203
            clear BK204
            clear BK217
            clear BK229
            clear HB
            have HO210 := n0_
            have HO213 := n1_
            have HO216 := n2_
            have HO222 := n3_
            have HO225 := n4_
            have HO228 := n5_
            have BK203 := n6_
            have BK204 := n7_
            have BK217 := n8_
            have BK229 := n9_
            have HB := n10_
            clear n0_ n1_ n2_ n3_ n4_ n5_ n6_ n7_ n8_ n9_ n10_
            refine start_ (n := 37) (S := fun w' => w'.cell? ⟨gb217, 0, none⟩ = some (.int .u8 t206) ∧ w'.cell? ⟨gb217, 1, none⟩ = some (.string t207) ∧ w'.cell? ⟨gb217, 2, none⟩ = some (.slice Ao30 t208.length co30) ∧ w'.cell? ⟨gb217, 3, none⟩ = some (.slice Ao31 t211.length co31) ∧ w'.cell? ⟨gb217, 4, none⟩ = some (.slice Ao32 t214.length co32) ∧ w'.cell? ⟨gb229, 0, none⟩ = some (.int .u8 t218) ∧ w'.cell? ⟨gb229, 1, none⟩ = some (.string t219) ∧ w'.cell? ⟨gb229, 2, none⟩ = some (.slice Ao40 t220.length co40) ∧ w'.cell? ⟨gb229, 3, none⟩ = some (.slice Ao41 t223.length co41) ∧ w'.cell? ⟨gb229, 4, none⟩ = some (.slice Ao42 t226.length co42)) (ds := []) #[false, false, false, false, false, false, false, false, false, false, false, false, false, false, false, false, false, false, false, false, false, false, false, false, false, false, false, false, false, false, false, false, false, false, false, false, false] (by kernel_rfl) rfl rfl ⟨(blk_cell BK217.out 0).trans rfl, (blk_cell BK217.out 1).trans rfl, (blk_cell BK217.out 2).trans rfl, (blk_cell BK217.out 3).trans rfl, (blk_cell BK217.out 4).trans rfl, (blk_cell BK229.out 0).trans rfl, (blk_cell BK229.out 1).trans rfl, (blk_cell BK229.out 2).trans rfl, (blk_cell BK229.out 3).trans rfl, (blk_cell BK229.out 4).trans rfl⟩ (fun hHeld => ?_); refine with_tabW tipstafflaw09_ValueAll.tab4 tipstafflaw09_ValueAll.bits4 (fun HT_ HW_ => ?_)
            generalize w43.drew = w44 at HO210 HO213 HO216 HO222 HO225 HO228 BK203 BK204 BK217 BK229 HB hHeld ⊢
            refine pure_ (i := 0) (N := some 13) (v := ?_) (a' := ?_) #[true, false, false, false, false, false, false, false, false, false, false, false, false, false, false, false, false, false, false, false, false, false, false, false, false, false, false, false, false, false, false, false, false, false, false, false, false] rfl rfl (any_of HT_.out (by kernel_rfl)) (fun _ _ _ h => h) (Or.inl ⟨by rfl, ?_⟩) ?_ ?_
            rotate_left
            · intro w'
              go_simp
              with_reducible rfl
            rotate_left
            · simp only [Act.put, List.setIfInBounds_toArray, List.set_cons_zero, List.set_cons_succ, i64_w, i32_w]
              rfl
            refine pure_ (i := 1) (N := some 14) (v := ?_) (a' := ?_) #[true, true, false, false, false, false, false, false, false, false, false, false, false, false, false, false, false, false, false, false, false, false, false, false, false, false, false, false, false, false, false, false, false, false, false, false, false] rfl rfl (any_of HT_.out (by kernel_rfl)) (fun _ _ _ h => h) (Or.inl ⟨by rfl, ?_⟩) ?_ ?_
            rotate_left
            · intro w'
              go_simp
              with_reducible rfl
            rotate_left
            · simp only [Act.put, List.setIfInBounds_toArray, List.set_cons_zero, List.set_cons_succ, i64_w, i32_w]
              rfl
            refine take_ (i := 2) (N := some 15) (v := ?_) (a' := ?_) #[true, true, true, false, false, false, false, false, false, false, false, false, false, false, false, false, false, false, false, false, false, false, false, false, false, false, false, false, false, false, false, false, false, false, false, false, false] rfl rfl (take_ofW HT_.out HW_.out (by kernel_rfl)) (fun _ _ _ h => h) (Or.inl ⟨by rfl, ?_⟩) hHeld ?_ ?_
            rotate_left
            · rintro w' ⟨s0, s1, s2, s3, s4, s5, s6, s7, s8, s9⟩
              go_simp
              with_reducible rfl
            rotate_left
            · simp only [Act.put, List.setIfInBounds_toArray, List.set_cons_zero, List.set_cons_succ, i64_w, i32_w]
              rfl
            refine take_ (i := 4) (N := some 17) (v := ?_) (a' := ?_) #[true, true, true, false, true, false, false, false, false, false, false, false, false, false, false, false, false, false, false, false, false, false, false, false, false, false, false, false, false, false, false, false, false, false, false, false, false] rfl rfl (take_ofW HT_.out HW_.out (by kernel_rfl)) (fun _ _ _ h => h) (Or.inl ⟨by rfl, ?_⟩) hHeld ?_ ?_
            rotate_left
            · rintro w' ⟨s0, s1, s2, s3, s4, s5, s6, s7, s8, s9⟩
              go_simp
              with_reducible rfl
            rotate_left
            · simp only [Act.put, List.setIfInBounds_toArray, List.set_cons_zero, List.set_cons_succ, i64_w, i32_w]
              rfl
            refine one_ (i := 3) (N := some 16) #[true, true, true, true, true, false, false, false, false, false, false, false, false, false, false, false, false, false, false, false, false, false, false, false, false, false, false, false, false, false, false, false, false, false, false, false, false] rfl rfl (one_of HT_.out (by kernel_rfl)) (by decide) (fun K hK => ?_)
            refine goes_ Try.func42 (by kernel_rfl) rfl #[.agg #[.int .u8 t206, .string t207, .slice Ao30 t208.length co30, .slice Ao31 t211.length co31, .slice Ao32 t214.length co32]] (by rfl) rfl rfl (by (try simp only [List.map_toArray, List.map_cons, List.map_nil]); first | done | rfl | (simp only [List.length_drop, List.length_take]; rfl)) ?_
            with_reducible refine (value_Right.calls k t206 t207 _ _ t208 _ _ t211 _ _ t214 t230 _ ?side1 ?side2 ?side3 ?side4 ?side5 ?side6 A7.out).mono ?_
            (case side1 => repeat (first | exact (Kd.R_reads' HO210.out).2.2 | (with_reducible refine Kd.C_alloc ?_ _) | (with_reducible refine Kd.C_drewN ?_ _) | (with_reducible refine Kd.C_drew ?_)))
            (case side2 => exact (Kd.R_reads' HO210.out).2.1)
            (case side3 => repeat (first | exact (Kd.R_reads' HO213.out).2.2 | (with_reducible refine Kd.C_alloc ?_ _) | (with_reducible refine Kd.C_drewN ?_ _) | (with_reducible refine Kd.C_drew ?_)))
            (case side4 => exact (Kd.R_reads' HO213.out).2.1)
            (case side5 => repeat (first | exact (Kd.R_reads' HO216.out).2.2 | (with_reducible refine Kd.C_alloc ?_ _) | (with_reducible refine Kd.C_drewN ?_ _) | (with_reducible refine Kd.C_drew ?_)))
            (case side6 => exact (Kd.R_reads' HO216.out).2.1)
            rintro e w45 ⟨rfl, hb⟩
            refine ⟨_, rfl, ?_⟩
            have n0_ := Aside0.mk (Kd.R_below (by (with_reducible repeat (first | apply Kd.R_alloc | apply Kd.R_drewN | apply Kd.R_drew)); exact HO210.out) hb)
            have n1_ := Aside0.mk (Kd.R_below (by (with_reducible repeat (first | apply Kd.R_alloc | apply Kd.R_drewN | apply Kd.R_drew)); exact HO213.out) hb)
            have n2_ := Aside0.mk (Kd.R_below (by (with_reducible repeat (first | apply Kd.R_alloc | apply Kd.R_drewN | apply Kd.R_drew)); exact HO216.out) hb)
            have n3_ := Aside0.mk (Kd.R_below (by (with_reducible repeat (first | apply Kd.R_alloc | apply Kd.R_drewN | apply Kd.R_drew)); exact HO222.out) hb)
            have n4_ := Aside0.mk (Kd.R_below (by (with_reducible repeat (first | apply Kd.R_alloc | apply Kd.R_drewN | apply Kd.R_drew)); exact HO225.out) hb)
            have n5_ := Aside0.mk (Kd.R_below (by (with_reducible repeat (first | apply Kd.R_alloc | apply Kd.R_drewN | apply Kd.R_drew)); exact HO228.out) hb)
            have n6_ := Aside0.mk (blk_below (g := gb203) (o := .cells #[.int .u8 a0_0, .string a0_1, .slice A0_2 l0_2.length c0_2, .slice A0_3 l0_3.length c0_3, .slice A0_4 l0_4.length c0_4] 26 (0, 0)) (by (with_reducible repeat (first | refine blk_drewN ?_ _ | refine blk_drew ?_ | refine blk_alloc ?_ _)); exact BK203.out) hb)
            have n7_ := Aside0.mk (blk_below (g := gb204) (o := .cells #[.int .u8 a1_0, .string a1_1, .slice A1_2 l1_2.length c1_2, .slice A1_3 l1_3.length c1_3, .slice A1_4 l1_4.length c1_4] 26 (0, 0)) (by (with_reducible repeat (first | refine blk_drewN ?_ _ | refine blk_drew ?_ | refine blk_alloc ?_ _)); exact BK204.out) hb)
            have n8_ := Aside0.mk (blk_below (g := gb217) (o := .cells #[.int .u8 t206, .string t207, .slice Ao30 t208.length co30, .slice Ao31 t211.length co31, .slice Ao32 t214.length co32] 26 (0, 0)) (by (with_reducible repeat (first | refine blk_drewN ?_ _ | refine blk_drew ?_ | refine blk_alloc ?_ _)); exact BK217.out) hb)
            have n9_ := Aside0.mk (blk_below (g := gb229) (o := .cells #[.int .u8 t218, .string t219, .slice Ao40 t220.length co40, .slice Ao41 t223.length co41, .slice Ao42 t226.length co42] 26 (0, 0)) (by (with_reducible repeat (first | refine blk_drewN ?_ _ | refine blk_drew ?_ | refine blk_alloc ?_ _)); exact BK229.out) hb)
            have n10_ := Aside0.mk (below_step (by repeat (first | (with_reducible first | exact HB.out | apply below_alloc | apply pw_below_drewN | apply below_drew1 | refine below_set ?_ GE203.out | refine below_set ?_ GE204.out | refine below_set ?_ GE217.out | refine below_set ?_ GE229.out) | exact HB.out)) hb)
            clear HO210
            clear HO213
            clear HO216
            clear HO222
            clear HO225
            clear HO228
            clear BK203
            clear BK204
            clear BK217
            clear BK229
            clear HB
            have HO210 := n0_
            have HO213 := n1_
            have HO216 := n2_
            have HO222 := n3_
            have HO225 := n4_
            have HO228 := n5_
            have BK203 := n6_
            have BK204 := n7_
            have BK217 := n8_
            have BK229 := n9_
            have HB := n10_
            clear n0_ n1_ n2_ n3_ n4_ n5_ n6_ n7_ n8_ n9_ n10_
            (try clear hb)
            (try clear hb2)
            (try clear hk)
            (try clear hi)
            refine hK.out _ _ ⟨(blk_cell BK217.out 0).trans rfl, (blk_cell BK217.out 1).trans rfl, (blk_cell BK217.out 2).trans rfl, (blk_cell BK217.out 3).trans rfl, (blk_cell BK217.out 4).trans rfl, (blk_cell BK229.out 0).trans rfl, (blk_cell BK229.out 1).trans rfl, (blk_cell BK229.out 2).trans rfl, (blk_cell BK229.out 3).trans rfl, (blk_cell BK229.out 4).trans rfl⟩ (fun hHeld => ?_)
            clear hK K
            refine norm_ (a' := ?_) ?_ ?_
            rotate_left
            · show Act.put _ (some 16) _ = _
              simp only [Act.put, List.setIfInBounds_toArray, List.set_cons_zero, List.set_cons_succ, i64_w, i32_w]
              rfl
            refine one_ (i := 5) (N := some 18) #[true, true, true, true, true, true, false, false, false, false, false, false, false, false, false, false, false, false, false, false, false, false, false, false, false, false, false, false, false, false, false, false, false, false, false, false, false] rfl rfl (one_of HT_.out (by kernel_rfl)) (by decide) (fun K hK => ?_)
            refine goes_ Try.func44 (by kernel_rfl) rfl #[.agg #[.int .u8 t206, .string t207, .slice Ao30 t208.length co30, .slice Ao31 t211.length co31, .slice Ao32 t214.length co32]] (by rfl) rfl rfl (by (try simp only [List.map_toArray, List.map_cons, List.map_nil]); first | done | rfl | (simp only [List.length_drop, List.length_take]; rfl)) ?_
            with_reducible refine (tipstaffref09_Right.calls k t206 t207 _ _ t208 _ _ t211 _ _ t214 t231 _ ?side1 ?side2 ?side3 ?side4 ?side5 ?side6 A8.out).mono ?_
            (case side1 => repeat (first | exact (Kd.R_reads' HO210.out).2.2 | (with_reducible refine Kd.C_alloc ?_ _) | (with_reducible refine Kd.C_drewN ?_ _) | (with_reducible refine Kd.C_drew ?_)))
            (case side2 => exact (Kd.R_reads' HO210.out).2.1)
            (case side3 => repeat (first | exact (Kd.R_reads' HO213.out).2.2 | (with_reducible refine Kd.C_alloc ?_ _) | (with_reducible refine Kd.C_drewN ?_ _) | (with_reducible refine Kd.C_drew ?_)))
            (case side4 => exact (Kd.R_reads' HO213.out).2.1)
            (case side5 => repeat (first | exact (Kd.R_reads' HO216.out).2.2 | (with_reducible refine Kd.C_alloc ?_ _) | (with_reducible refine Kd.C_drewN ?_ _) | (with_reducible refine Kd.C_drew ?_)))
            (case side6 => exact (Kd.R_reads' HO216.out).2.1)
            rintro e w46 ⟨rfl, hb⟩
            refine ⟨_, rfl, ?_⟩
            have n0_ := Aside0.mk (Kd.R_below (by (with_reducible repeat (first | apply Kd.R_alloc | apply Kd.R_drewN | apply Kd.R_drew)); exact HO210.out) hb)
            have n1_ := Aside0.mk (Kd.R_below (by (with_reducible repeat (first | apply Kd.R_alloc | apply Kd.R_drewN | apply Kd.R_drew)); exact HO213.out) hb)
            have n2_ := Aside0.mk (Kd.R_below (by (with_reducible repeat (first | apply Kd.R_alloc | apply Kd.R_drewN | apply Kd.R_drew)); exact HO216.out) hb)
            have n3_ := Aside0.mk (Kd.R_below (by (with_reducible repeat (first | apply Kd.R_alloc | apply Kd.R_drewN | apply Kd.R_drew)); exact HO222.out) hb)
            have n4_ := Aside0.mk (Kd.R_below (by (with_reducible repeat (first | apply Kd.R_alloc | apply Kd.R_drewN | apply Kd.R_drew)); exact HO225.out) hb)
            have n5_ := Aside0.mk (Kd.R_below (by (with_reducible repeat (first | apply Kd.R_alloc | apply Kd.R_drewN | apply Kd.R_drew)); exact HO228.out) hb)
            have n6_ := Aside0.mk (blk_below (g := gb203) (o := .cells #[.int .u8 a0_0, .string a0_1, .slice A0_2 l0_2.length c0_2, .slice A0_3 l0_3.length c0_3, .slice A0_4 l0_4.length c0_4] 26 (0, 0)) (by (with_reducible repeat (first | refine blk_drewN ?_ _ | refine blk_drew ?_ | refine blk_alloc ?_ _)); exact BK203.out) hb)
            have n7_ := Aside0.mk (blk_below (g := gb204) (o := .cells #[.int .u8 a1_0, .string a1_1, .slice A1_2 l1_2.length c1_2, .slice A1_3 l1_3.length c1_3, .slice A1_4 l1_4.length c1_4] 26 (0, 0)) (by (with_reducible repeat (first | refine blk_drewN ?_ _ | refine blk_drew ?_ | refine blk_alloc ?_ _)); exact BK204.out) hb)
            have n8_ := Aside0.mk (blk_below (g := gb217) (o := .cells #[.int .u8 t206, .string t207, .slice Ao30 t208.length co30, .slice Ao31 t211.length co31, .slice Ao32 t214.length co32] 26 (0, 0)) (by (with_reducible repeat (first | refine blk_drewN ?_ _ | refine blk_drew ?_ | refine blk_alloc ?_ _)); exact BK217.out) hb)
            have n9_ := Aside0.mk (blk_below (g := gb229) (o := .cells #[.int .u8 t218, .string t219, .slice Ao40 t220.length co40, .slice Ao41 t223.length co41, .slice Ao42 t226.length co42] 26 (0, 0)) (by (with_reducible repeat (first | refine blk_drewN ?_ _ | refine blk_drew ?_ | refine blk_alloc ?_ _)); exact BK229.out) hb)
            have n10_ := Aside0.mk (below_step (by repeat (first | (with_reducible first | exact HB.out | apply below_alloc | apply pw_below_drewN | apply below_drew1 | refine below_set ?_ GE203.out | refine below_set ?_ GE204.out | refine below_set ?_ GE217.out | refine below_set ?_ GE229.out) | exact HB.out)) hb)
            clear HO210
            clear HO213
            clear HO216
            clear HO222
            clear HO225
            clear HO228
            clear BK203
            clear BK204
            clear BK217
            clear BK229
            clear HB
            have HO210 := n0_
            have HO213 := n1_
            have HO216 := n2_
            have HO222 := n3_
            have HO225 := n4_
            have HO228 := n5_
            have BK203 := n6_
            have BK204 := n7_
            have BK217 := n8_
            have BK229 := n9_
            have HB := n10_
            clear n0_ n1_ n2_ n3_ n4_ n5_ n6_ n7_ n8_ n9_ n10_
            (try clear hb)
            (try clear hb2)
            (try clear hk)
            (try clear hi)
            refine hK.out _ _ ⟨(blk_cell BK217.out 0).trans rfl, (blk_cell BK217.out 1).trans rfl, (blk_cell BK217.out 2).trans rfl, (blk_cell BK217.out 3).trans rfl, (blk_cell BK217.out 4).trans rfl, (blk_cell BK229.out 0).trans rfl, (blk_cell BK229.out 1).trans rfl, (blk_cell BK229.out 2).trans rfl, (blk_cell BK229.out 3).trans rfl, (blk_cell BK229.out 4).trans rfl⟩ (fun hHeld => ?_)
            clear hK K
            refine norm_ (a' := ?_) ?_ ?_
            rotate_left
            · show Act.put _ (some 18) _ = _
              simp only [Act.put, List.setIfInBounds_toArray, List.set_cons_zero, List.set_cons_succ, i64_w, i32_w]
              rfl
            refine pure_ (i := 6) (N := some 19) (v := ?_) (a' := ?_) #[true, true, true, true, true, true, true, false, false, false, false, false, false, false, false, false, false, false, false, false, false, false, false, false, false, false, false, false, false, false, false, false, false, false, false, false, false] rfl rfl (any_of HT_.out (by kernel_rfl)) (fun _ _ _ h => h) (Or.inl ⟨by rfl, ?_⟩) ?_ ?_
            rotate_left
            · intro w'
              go_simp
              with_reducible rfl
            rotate_left
            · simp only [Act.put, List.setIfInBounds_toArray, List.set_cons_zero, List.set_cons_succ, i64_w, i32_w]
              rfl
            refine pure_ (i := 7) (N := some 20) (v := ?_) (a' := ?_) #[true, true, true, true, true, true, true, true, false, false, false, false, false, false, false, false, false, false, false, false, false, false, false, false, false, false, false, false, false, false, false, false, false, false, false, false, false] rfl rfl (any_of HT_.out (by kernel_rfl)) (fun _ _ _ h => h) (Or.inl ⟨by rfl, ?_⟩) ?_ ?_
            rotate_left
            · intro w'
              go_simp
              with_reducible rfl
            rotate_left
            · simp only [Act.put, List.setIfInBounds_toArray, List.set_cons_zero, List.set_cons_succ, i64_w, i32_w]
              rfl
            refine pure_ (i := 8) (N := some 21) (v := ?_) (a' := ?_) #[true, true, true, true, true, true, true, true, true, false, false, false, false, false, false, false, false, false, false, false, false, false, false, false, false, false, false, false, false, false, false, false, false, false, false, false, false] rfl rfl (any_of HT_.out (by kernel_rfl)) (fun _ _ _ h => h) (Or.inl ⟨by rfl, ?_⟩) ?_ ?_
            rotate_left
            · intro w'
              go_simp
              with_reducible rfl
            rotate_left
            · simp only [Act.put, List.setIfInBounds_toArray, List.set_cons_zero, List.set_cons_succ, i64_w, i32_w]
              rfl
            refine take_ (i := 9) (N := some 22) (v := ?_) (a' := ?_) #[true, true, true, true, true, true, true, true, true, true, false, false, false, false, false, false, false, false, false, false, false, false, false, false, false, false, false, false, false, false, false, false, false, false, false, false, false] rfl rfl (take_ofW HT_.out HW_.out (by kernel_rfl)) (fun _ _ _ h => h) (Or.inl ⟨by rfl, ?_⟩) hHeld ?_ ?_
            rotate_left
            · rintro w' ⟨s0, s1, s2, s3, s4, s5, s6, s7, s8, s9⟩
              go_simp
              with_reducible rfl
            rotate_left
            · simp only [Act.put, List.setIfInBounds_toArray, List.set_cons_zero, List.set_cons_succ, i64_w, i32_w]
              rfl
            refine take_ (i := 11) (N := some 24) (v := ?_) (a' := ?_) #[true, true, true, true, true, true, true, true, true, true, false, true, false, false, false, false, false, false, false, false, false, false, false, false, false, false, false, false, false, false, false, false, false, false, false, false, false] rfl rfl (take_ofW HT_.out HW_.out (by kernel_rfl)) (fun _ _ _ h => h) (Or.inl ⟨by rfl, ?_⟩) hHeld ?_ ?_
            rotate_left
            · rintro w' ⟨s0, s1, s2, s3, s4, s5, s6, s7, s8, s9⟩
              go_simp
              with_reducible rfl
            rotate_left
            · simp only [Act.put, List.setIfInBounds_toArray, List.set_cons_zero, List.set_cons_succ, i64_w, i32_w]
              rfl
            refine one_ (i := 10) (N := some 23) #[true, true, true, true, true, true, true, true, true, true, true, true, false, false, false, false, false, false, false, false, false, false, false, false, false, false, false, false, false, false, false, false, false, false, false, false, false] rfl rfl (one_of HT_.out (by kernel_rfl)) (by decide) (fun K hK => ?_)
            refine goes_ Try.func45 (by kernel_rfl) rfl #[.agg #[.int .u8 t206, .string t207, .slice Ao30 t208.length co30, .slice Ao31 t211.length co31, .slice Ao32 t214.length co32]] (by rfl) rfl rfl (by (try simp only [List.map_toArray, List.map_cons, List.map_nil]); first | done | rfl | (simp only [List.length_drop, List.length_take]; rfl)) ?_
            with_reducible refine (value_Type.calls t206 t207 _ _ t208 _ _ t211 _ _ t214 t232 _ ?side1 ?side2 ?side3 ?side4 ?side5 ?side6 A10.out).mono ?_
            (case side1 => repeat (first | exact (Kd.R_reads' HO210.out).2.2 | (with_reducible refine Kd.C_alloc ?_ _) | (with_reducible refine Kd.C_drewN ?_ _) | (with_reducible refine Kd.C_drew ?_)))
            (case side2 => exact (Kd.R_reads' HO210.out).2.1)
            (case side3 => repeat (first | exact (Kd.R_reads' HO213.out).2.2 | (with_reducible refine Kd.C_alloc ?_ _) | (with_reducible refine Kd.C_drewN ?_ _) | (with_reducible refine Kd.C_drew ?_)))
            (case side4 => exact (Kd.R_reads' HO213.out).2.1)
            (case side5 => repeat (first | exact (Kd.R_reads' HO216.out).2.2 | (with_reducible refine Kd.C_alloc ?_ _) | (with_reducible refine Kd.C_drewN ?_ _) | (with_reducible refine Kd.C_drew ?_)))
            (case side6 => exact (Kd.R_reads' HO216.out).2.1)
            rintro e w47 ⟨rfl, hb⟩
            refine ⟨_, rfl, ?_⟩
            have n0_ := Aside0.mk (Kd.R_below (by (with_reducible repeat (first | apply Kd.R_alloc | apply Kd.R_drewN | apply Kd.R_drew)); exact HO210.out) hb)
            have n1_ := Aside0.mk (Kd.R_below (by (with_reducible repeat (first | apply Kd.R_alloc | apply Kd.R_drewN | apply Kd.R_drew)); exact HO213.out) hb)
            have n2_ := Aside0.mk (Kd.R_below (by (with_reducible repeat (first | apply Kd.R_alloc | apply Kd.R_drewN | apply Kd.R_drew)); exact HO216.out) hb)
            have n3_ := Aside0.mk (Kd.R_below (by (with_reducible repeat (first | apply Kd.R_alloc | apply Kd.R_drewN | apply Kd.R_drew)); exact HO222.out) hb)
            have n4_ := Aside0.mk (Kd.R_below (by (with_reducible repeat (first | apply Kd.R_alloc | apply Kd.R_drewN | apply Kd.R_drew)); exact HO225.out) hb)
            have n5_ := Aside0.mk (Kd.R_below (by (with_reducible repeat (first | apply Kd.R_alloc | apply Kd.R_drewN | apply Kd.R_drew)); exact HO228.out) hb)
            have n6_ := Aside0.mk (blk_below (g := gb203) (o := .cells #[.int .u8 a0_0, .string a0_1, .slice A0_2 l0_2.length c0_2, .slice A0_3 l0_3.length c0_3, .slice A0_4 l0_4.length c0_4] 26 (0, 0)) (by (with_reducible repeat (first | refine blk_drewN ?_ _ | refine blk_drew ?_ | refine blk_alloc ?_ _)); exact BK203.out) hb)
            have n7_ := Aside0.mk (blk_below (g := gb204) (o := .cells #[.int .u8 a1_0, .string a1_1, .slice A1_2 l1_2.length c1_2, .slice A1_3 l1_3.length c1_3, .slice A1_4 l1_4.length c1_4] 26 (0, 0)) (by (with_reducible repeat (first | refine blk_drewN ?_ _ | refine blk_drew ?_ | refine blk_alloc ?_ _)); exact BK204.out) hb)
            have n8_ := Aside0.mk (blk_below (g := gb217) (o := .cells #[.int .u8 t206, .string t207, .slice Ao30 t208.length co30, .slice Ao31 t211.length co31, .slice Ao32 t214.length co32] 26 (0, 0)) (by (with_reducible repeat (first | refine blk_drewN ?_ _ | refine blk_drew ?_ | refine blk_alloc ?_ _)); exact BK217.out) hb)
            have n9_ := Aside0.mk (blk_below (g := gb229) (o := .cells #[.int .u8 t218, .string t219, .slice Ao40 t220.length co40, .slice Ao41 t223.length co41, .slice Ao42 t226.length co42] 26 (0, 0)) (by (with_reducible repeat (first | refine blk_drewN ?_ _ | refine blk_drew ?_ | refine blk_alloc ?_ _)); exact BK229.out) hb)
            have n10_ := Aside0.mk (below_step (by repeat (first | (with_reducible first | exact HB.out | apply below_alloc | apply pw_below_drewN | apply below_drew1 | refine below_set ?_ GE203.out | refine below_set ?_ GE204.out | refine below_set ?_ GE217.out | refine below_set ?_ GE229.out) | exact HB.out)) hb)
            clear HO210
            clear HO213
            clear HO216
            clear HO222
            clear HO225
            clear HO228
            clear BK203
            clear BK204
            clear BK217
            clear BK229
            clear HB
            have HO210 := n0_
            have HO213 := n1_
            have HO216 := n2_
            have HO222 := n3_
            have HO225 := n4_
            have HO228 := n5_
            have BK203 := n6_
            have BK204 := n7_
            have BK217 := n8_
            have BK229 := n9_
            have HB := n10_
            clear n0_ n1_ n2_ n3_ n4_ n5_ n6_ n7_ n8_ n9_ n10_
            (try clear hb)
            (try clear hb2)
            (try clear hk)
            (try clear hi)
            refine hK.out _ _ ⟨(blk_cell BK217.out 0).trans rfl, (blk_cell BK217.out 1).trans rfl, (blk_cell BK217.out 2).trans rfl, (blk_cell BK217.out 3).trans rfl, (blk_cell BK217.out 4).trans rfl, (blk_cell BK229.out 0).trans rfl, (blk_cell BK229.out 1).trans rfl, (blk_cell BK229.out 2).trans rfl, (blk_cell BK229.out 3).trans rfl, (blk_cell BK229.out 4).trans rfl⟩ (fun hHeld => ?_)
            clear hK K
            refine norm_ (a' := ?_) ?_ ?_
            rotate_left
            · show Act.put _ (some 23) _ = _
              simp only [Act.put, List.setIfInBounds_toArray, List.set_cons_zero, List.set_cons_succ, i64_w, i32_w]
              rfl
            refine one_ (i := 12) (N := some 25) #[true, true, true, true, true, true, true, true, true, true, true, true, true, false, false, false, false, false, false, false, false, false, false, false, false, false, false, false, false, false, false, false, false, false, false, false, false] rfl rfl (one_of HT_.out (by kernel_rfl)) (by decide) (fun K hK => ?_)
            refine goes_ Try.func46 (by kernel_rfl) rfl #[.agg #[.int .u8 t206, .string t207, .slice Ao30 t208.length co30, .slice Ao31 t211.length co31, .slice Ao32 t214.length co32]] (by rfl) rfl rfl (by (try simp only [List.map_toArray, List.map_cons, List.map_nil]); first | done | rfl | (simp only [List.length_drop, List.length_take]; rfl)) ?_
            with_reducible refine (tipstaffref09_Type.calls t206 t207 _ _ t208 _ _ t211 _ _ t214 t233 _ ?side1 ?side2 ?side3 ?side4 ?side5 ?side6 A11.out).mono ?_
            (case side1 => repeat (first | exact (Kd.R_reads' HO210.out).2.2 | (with_reducible refine Kd.C_alloc ?_ _) | (with_reducible refine Kd.C_drewN ?_ _) | (with_reducible refine Kd.C_drew ?_)))
            (case side2 => exact (Kd.R_reads' HO210.out).2.1)
            (case side3 => repeat (first | exact (Kd.R_reads' HO213.out).2.2 | (with_reducible refine Kd.C_alloc ?_ _) | (with_reducible refine Kd.C_drewN ?_ _) | (with_reducible refine Kd.C_drew ?_)))
            (case side4 => exact (Kd.R_reads' HO213.out).2.1)
            (case side5 => repeat (first | exact (Kd.R_reads' HO216.out).2.2 | (with_reducible refine Kd.C_alloc ?_ _) | (with_reducible refine Kd.C_drewN ?_ _) | (with_reducible refine Kd.C_drew ?_)))
            (case side6 => exact (Kd.R_reads' HO216.out).2.1)
            rintro e w48 ⟨rfl, hb⟩
            refine ⟨_, rfl, ?_⟩
            have n0_ := Aside0.mk (Kd.R_below (by (with_reducible repeat (first | apply Kd.R_alloc | apply Kd.R_drewN | apply Kd.R_drew)); exact HO210.out) hb)
            have n1_ := Aside0.mk (Kd.R_below (by (with_reducible repeat (first | apply Kd.R_alloc | apply Kd.R_drewN | apply Kd.R_drew)); exact HO213.out) hb)
            have n2_ := Aside0.mk (Kd.R_below (by (with_reducible repeat (first | apply Kd.R_alloc | apply Kd.R_drewN | apply Kd.R_drew)); exact HO216.out) hb)
            have n3_ := Aside0.mk (Kd.R_below (by (with_reducible repeat (first | apply Kd.R_alloc | apply Kd.R_drewN | apply Kd.R_drew)); exact HO222.out) hb)
            have n4_ := Aside0.mk (Kd.R_below (by (with_reducible repeat (first | apply Kd.R_alloc | apply Kd.R_drewN | apply Kd.R_drew)); exact HO225.out) hb)
            have n5_ := Aside0.mk (Kd.R_below (by (with_reducible repeat (first | apply Kd.R_alloc | apply Kd.R_drewN | apply Kd.R_drew)); exact HO228.out) hb)
            have n6_ := Aside0.mk (blk_below (g := gb203) (o := .cells #[.int .u8 a0_0, .string a0_1, .slice A0_2 l0_2.length c0_2, .slice A0_3 l0_3.length c0_3, .slice A0_4 l0_4.length c0_4] 26 (0, 0)) (by (with_reducible repeat (first | refine blk_drewN ?_ _ | refine blk_drew ?_ | refine blk_alloc ?_ _)); exact BK203.out) hb)
            have n7_ := Aside0.mk (blk_below (g := gb204) (o := .cells #[.int .u8 a1_0, .string a1_1, .slice A1_2 l1_2.length c1_2, .slice A1_3 l1_3.length c1_3, .slice A1_4 l1_4.length c1_4] 26 (0, 0)) (by (with_reducible repeat (first | refine blk_drewN ?_ _ | refine blk_drew ?_ | refine blk_alloc ?_ _)); exact BK204.out) hb)
            have n8_ := Aside0.mk (blk_below (g := gb217) (o := .cells #[.int .u8 t206, .string t207, .slice Ao30 t208.length co30, .slice Ao31 t211.length co31, .slice Ao32 t214.length co32] 26 (0, 0)) (by (with_reducible repeat (first | refine blk_drewN ?_ _ | refine blk_drew ?_ | refine blk_alloc ?_ _)); exact BK217.out) hb)
            have n9_ := Aside0.mk (blk_below (g := gb229) (o := .cells #[.int .u8 t218, .string t219, .slice Ao40 t220.length co40, .slice Ao41 t223.length co41, .slice Ao42 t226.length co42] 26 (0, 0)) (by (with_reducible repeat (first | refine blk_drewN ?_ _ | refine blk_drew ?_ | refine blk_alloc ?_ _)); exact BK229.out) hb)
            have n10_ := Aside0.mk (below_step (by repeat (first | (with_reducible first | exact HB.out | apply below_alloc | apply pw_below_drewN | apply below_drew1 | refine below_set ?_ GE203.out | refine below_set ?_ GE204.out | refine below_set ?_ GE217.out | refine below_set ?_ GE229.out) | exact HB.out)) hb)
            clear HO210
            clear HO213
            clear HO216
            clear HO222
            clear HO225
            clear HO228
            clear BK203
            clear BK204
            clear BK217
            clear BK229
            clear HB
            have HO210 := n0_
            have HO213 := n1_
            have HO216 := n2_
            have HO222 := n3_
            have HO225 := n4_
            have HO228 := n5_
            have BK203 := n6_
            have BK204 := n7_
            have BK217 := n8_
            have BK229 := n9_
            have HB := n10_
            clear n0_ n1_ n2_ n3_ n4_ n5_ n6_ n7_ n8_ n9_ n10_
            (try clear hb)
            (try clear hb2)
            (try clear hk)
            (try clear hi)
            refine hK.out _ _ ⟨(blk_cell BK217.out 0).trans rfl, (blk_cell BK217.out 1).trans rfl, (blk_cell BK217.out 2).trans rfl, (blk_cell BK217.out 3).trans rfl, (blk_cell BK217.out 4).trans rfl, (blk_cell BK229.out 0).trans rfl, (blk_cell BK229.out 1).trans rfl, (blk_cell BK229.out 2).trans rfl, (blk_cell BK229.out 3).trans rfl, (blk_cell BK229.out 4).trans rfl⟩ (fun hHeld => ?_)
            clear hK K
            refine norm_ (a' := ?_) ?_ ?_
            rotate_left
            · show Act.put _ (some 25) _ = _
              simp only [Act.put, List.setIfInBounds_toArray, List.set_cons_zero, List.set_cons_succ, i64_w, i32_w]
              rfl
            refine pure_ (i := 13) (N := some 26) (v := ?_) (a' := ?_) #[true, true, true, true, true, true, true, true, true, true, true, true, true, true, false, false, false, false, false, false, false, false, false, false, false, false, false, false, false, false, false, false, false, false, false, false, false] rfl rfl (any_of HT_.out (by kernel_rfl)) (fun _ _ _ h => h) (Or.inl ⟨by rfl, ?_⟩) ?_ ?_
            rotate_left
            · intro w'
              go_simp
              with_reducible rfl
            rotate_left
            · simp only [Act.put, List.setIfInBounds_toArray, List.set_cons_zero, List.set_cons_succ, i64_w, i32_w]
              rfl
            refine pure_ (i := 14) (N := some 27) (v := ?_) (a' := ?_) #[true, true, true, true, true, true, true, true, true, true, true, true, true, true, true, false, false, false, false, false, false, false, false, false, false, false, false, false, false, false, false, false, false, false, false, false, false] rfl rfl (any_of HT_.out (by kernel_rfl)) (fun _ _ _ h => h) (Or.inl ⟨by rfl, ?_⟩) ?_ ?_
            rotate_left
            · intro w'
              go_simp
              with_reducible rfl
            rotate_left
            · simp only [Act.put, List.setIfInBounds_toArray, List.set_cons_zero, List.set_cons_succ, i64_w, i32_w]
              rfl
            refine pure_ (i := 15) (N := some 28) (v := ?_) (a' := ?_) #[true, true, true, true, true, true, true, true, true, true, true, true, true, true, true, true, false, false, false, false, false, false, false, false, false, false, false, false, false, false, false, false, false, false, false, false, false] rfl rfl (any_of HT_.out (by kernel_rfl)) (fun _ _ _ h => h) (Or.inl ⟨by rfl, ?_⟩) ?_ ?_
            rotate_left
            · intro w'
              go_simp
              with_reducible rfl
            rotate_left
            · simp only [Act.put, List.setIfInBounds_toArray, List.set_cons_zero, List.set_cons_succ, i64_w, i32_w]
              rfl
            refine take_ (i := 16) (N := some 29) (v := ?_) (a' := ?_) #[true, true, true, true, true, true, true, true, true, true, true, true, true, true, true, true, true, false, false, false, false, false, false, false, false, false, false, false, false, false, false, false, false, false, false, false, false] rfl rfl (take_ofW HT_.out HW_.out (by kernel_rfl)) (fun _ _ _ h => h) (Or.inl ⟨by rfl, ?_⟩) hHeld ?_ ?_
            rotate_left
            · rintro w' ⟨s0, s1, s2, s3, s4, s5, s6, s7, s8, s9⟩
              go_simp
              with_reducible rfl
            rotate_left
            · simp only [Act.put, List.setIfInBounds_toArray, List.set_cons_zero, List.set_cons_succ, i64_w, i32_w]
              rfl
            refine take_ (i := 18) (N := some 31) (v := ?_) (a' := ?_) #[true, true, true, true, true, true, true, true, true, true, true, true, true, true, true, true, true, false, true, false, false, false, false, false, false, false, false, false, false, false, false, false, false, false, false, false, false] rfl rfl (take_ofW HT_.out HW_.out (by kernel_rfl)) (fun _ _ _ h => h) (Or.inl ⟨by rfl, ?_⟩) hHeld ?_ ?_
            rotate_left
            · rintro w' ⟨s0, s1, s2, s3, s4, s5, s6, s7, s8, s9⟩
              go_simp
              with_reducible rfl
            rotate_left
            · simp only [Act.put, List.setIfInBounds_toArray, List.set_cons_zero, List.set_cons_succ, i64_w, i32_w]
              rfl
            refine one_ (i := 17) (N := some 30) #[true, true, true, true, true, true, true, true, true, true, true, true, true, true, true, true, true, true, true, false, false, false, false, false, false, false, false, false, false, false, false, false, false, false, false, false, false] rfl rfl (one_of HT_.out (by kernel_rfl)) (by decide) (fun K hK => ?_)
            refine goes_ Try.func43 (by kernel_rfl) rfl #[.agg #[.int .u8 t206, .string t207, .slice Ao30 t208.length co30, .slice Ao31 t211.length co31, .slice Ao32 t214.length co32]] (by rfl) rfl rfl (by (try simp only [List.map_toArray, List.map_cons, List.map_nil]); first | done | rfl | (simp only [List.length_drop, List.length_take]; rfl)) ?_
            with_reducible refine (value_Size.calls k t206 t207 _ _ t208 _ _ t211 _ _ t214 t234 _ ?side1 ?side2 ?side3 ?side4 ?side5 ?side6 A13.out).mono ?_
            (case side1 => repeat (first | exact (Kd.R_reads' HO210.out).2.2 | (with_reducible refine Kd.C_alloc ?_ _) | (with_reducible refine Kd.C_drewN ?_ _) | (with_reducible refine Kd.C_drew ?_)))
            (case side2 => exact (Kd.R_reads' HO210.out).2.1)
            (case side3 => repeat (first | exact (Kd.R_reads' HO213.out).2.2 | (with_reducible refine Kd.C_alloc ?_ _) | (with_reducible refine Kd.C_drewN ?_ _) | (with_reducible refine Kd.C_drew ?_)))
            (case side4 => exact (Kd.R_reads' HO213.out).2.1)
            (case side5 => repeat (first | exact (Kd.R_reads' HO216.out).2.2 | (with_reducible refine Kd.C_alloc ?_ _) | (with_reducible refine Kd.C_drewN ?_ _) | (with_reducible refine Kd.C_drew ?_)))
            (case side6 => exact (Kd.R_reads' HO216.out).2.1)
            rintro e w49 ⟨rfl, hb⟩
            refine ⟨_, rfl, ?_⟩
            have n0_ := Aside0.mk (Kd.R_below (by (with_reducible repeat (first | apply Kd.R_alloc | apply Kd.R_drewN | apply Kd.R_drew)); exact HO210.out) hb)
            have n1_ := Aside0.mk (Kd.R_below (by (with_reducible repeat (first | apply Kd.R_alloc | apply Kd.R_drewN | apply Kd.R_drew)); exact HO213.out) hb)
            have n2_ := Aside0.mk (Kd.R_below (by (with_reducible repeat (first | apply Kd.R_alloc | apply Kd.R_drewN | apply Kd.R_drew)); exact HO216.out) hb)
            have n3_ := Aside0.mk (Kd.R_below (by (with_reducible repeat (first | apply Kd.R_alloc | apply Kd.R_drewN | apply Kd.R_drew)); exact HO222.out) hb)
            have n4_ := Aside0.mk (Kd.R_below (by (with_reducible repeat (first | apply Kd.R_alloc | apply Kd.R_drewN | apply Kd.R_drew)); exact HO225.out) hb)
            have n5_ := Aside0.mk (Kd.R_below (by (with_reducible repeat (first | apply Kd.R_alloc | apply Kd.R_drewN | apply Kd.R_drew)); exact HO228.out) hb)
            have n6_ := Aside0.mk (blk_below (g := gb203) (o := .cells #[.int .u8 a0_0, .string a0_1, .slice A0_2 l0_2.length c0_2, .slice A0_3 l0_3.length c0_3, .slice A0_4 l0_4.length c0_4] 26 (0, 0)) (by (with_reducible repeat (first | refine blk_drewN ?_ _ | refine blk_drew ?_ | refine blk_alloc ?_ _)); exact BK203.out) hb)
            have n7_ := Aside0.mk (blk_below (g := gb204) (o := .cells #[.int .u8 a1_0, .string a1_1, .slice A1_2 l1_2.length c1_2, .slice A1_3 l1_3.length c1_3, .slice A1_4 l1_4.length c1_4] 26 (0, 0)) (by (with_reducible repeat (first | refine blk_drewN ?_ _ | refine blk_drew ?_ | refine blk_alloc ?_ _)); exact BK204.out) hb)
            have n8_ := Aside0.mk (blk_below (g := gb217) (o := .cells #[.int .u8 t206, .string t207, .slice Ao30 t208.length co30, .slice Ao31 t211.length co31, .slice Ao32 t214.length co32] 26 (0, 0)) (by (with_reducible repeat (first | refine blk_drewN ?_ _ | refine blk_drew ?_ | refine blk_alloc ?_ _)); exact BK217.out) hb)
            have n9_ := Aside0.mk (blk_below (g := gb229) (o := .cells #[.int .u8 t218, .string t219, .slice Ao40 t220.length co40, .slice Ao41 t223.length co41, .slice Ao42 t226.length co42] 26 (0, 0)) (by (with_reducible repeat (first | refine blk_drewN ?_ _ | refine blk_drew ?_ | refine blk_alloc ?_ _)); exact BK229.out) hb)
            have n10_ := Aside0.mk (below_step (by repeat (first | (with_reducible first | exact HB.out | apply below_alloc | apply pw_below_drewN | apply below_drew1 | refine below_set ?_ GE203.out | refine below_set ?_ GE204.out | refine below_set ?_ GE217.out | refine below_set ?_ GE229.out) | exact HB.out)) hb)
            clear HO210
            clear HO213
            clear HO216
            clear HO222
            clear HO225
            clear HO228
            clear BK203
            clear BK204
            clear BK217
            clear BK229
            clear HB
            have HO210 := n0_
            have HO213 := n1_
            have HO216 := n2_
            have HO222 := n3_
            have HO225 := n4_
            have HO228 := n5_
            have BK203 := n6_
            have BK204 := n7_
            have BK217 := n8_
            have BK229 := n9_
            have HB := n10_
            clear n0_ n1_ n2_ n3_ n4_ n5_ n6_ n7_ n8_ n9_ n10_
            (try clear hb)
            (try clear hb2)
            (try clear hk)
            (try clear hi)
            refine hK.out _ _ ⟨(blk_cell BK217.out 0).trans rfl, (blk_cell BK217.out 1).trans rfl, (blk_cell BK217.out 2).trans rfl, (blk_cell BK217.out 3).trans rfl, (blk_cell BK217.out 4).trans rfl, (blk_cell BK229.out 0).trans rfl, (blk_cell BK229.out 1).trans rfl, (blk_cell BK229.out 2).trans rfl, (blk_cell BK229.out 3).trans rfl, (blk_cell BK229.out 4).trans rfl⟩ (fun hHeld => ?_)
            clear hK K
            refine norm_ (a' := ?_) ?_ ?_
            rotate_left
            · show Act.put _ (some 30) _ = _
              simp only [Act.put, List.setIfInBounds_toArray, List.set_cons_zero, List.set_cons_succ, i64_w, i32_w]
              rfl
            refine one_ (i := 19) (N := some 32) #[true, true, true, true, true, true, true, true, true, true, true, true, true, true, true, true, true, true, true, true, false, false, false, false, false, false, false, false, false, false, false, false, false, false, false, false, false] rfl rfl (one_of HT_.out (by kernel_rfl)) (by decide) (fun K hK => ?_)
            refine goes_ Try.func47 (by kernel_rfl) rfl #[.agg #[.int .u8 t206, .string t207, .slice Ao30 t208.length co30, .slice Ao31 t211.length co31, .slice Ao32 t214.length co32]] (by rfl) rfl rfl (by (try simp only [List.map_toArray, List.map_cons, List.map_nil]); first | done | rfl | (simp only [List.length_drop, List.length_take]; rfl)) ?_
            with_reducible refine (tipstaffref09_Size.calls k t206 t207 _ _ t208 _ _ t211 _ _ t214 t235 _ ?side1 ?side2 ?side3 ?side4 ?side5 ?side6 A14.out).mono ?_
            (case side1 => repeat (first | exact (Kd.R_reads' HO210.out).2.2 | (with_reducible refine Kd.C_alloc ?_ _) | (with_reducible refine Kd.C_drewN ?_ _) | (with_reducible refine Kd.C_drew ?_)))
            (case side2 => exact (Kd.R_reads' HO210.out).2.1)
            (case side3 => repeat (first | exact (Kd.R_reads' HO213.out).2.2 | (with_reducible refine Kd.C_alloc ?_ _) | (with_reducible refine Kd.C_drewN ?_ _) | (with_reducible refine Kd.C_drew ?_)))
            (case side4 => exact (Kd.R_reads' HO213.out).2.1)
            (case side5 => repeat (first | exact (Kd.R_reads' HO216.out).2.2 | (with_reducible refine Kd.C_alloc ?_ _) | (with_reducible refine Kd.C_drewN ?_ _) | (with_reducible refine Kd.C_drew ?_)))
            (case side6 => exact (Kd.R_reads' HO216.out).2.1)
            rintro e w50 ⟨rfl, hb⟩
            refine ⟨_, rfl, ?_⟩
            have n0_ := Aside0.mk (Kd.R_below (by (with_reducible repeat (first | apply Kd.R_alloc | apply Kd.R_drewN | apply Kd.R_drew)); exact HO210.out) hb)
            have n1_ := Aside0.mk (Kd.R_below (by (with_reducible repeat (first | apply Kd.R_alloc | apply Kd.R_drewN | apply Kd.R_drew)); exact HO213.out) hb)
            have n2_ := Aside0.mk (Kd.R_below (by (with_reducible repeat (first | apply Kd.R_alloc | apply Kd.R_drewN | apply Kd.R_drew)); exact HO216.out) hb)
            have n3_ := Aside0.mk (Kd.R_below (by (with_reducible repeat (first | apply Kd.R_alloc | apply Kd.R_drewN | apply Kd.R_drew)); exact HO222.out) hb)
            have n4_ := Aside0.mk (Kd.R_below (by (with_reducible repeat (first | apply Kd.R_alloc | apply Kd.R_drewN | apply Kd.R_drew)); exact HO225.out) hb)
            have n5_ := Aside0.mk (Kd.R_below (by (with_reducible repeat (first | apply Kd.R_alloc | apply Kd.R_drewN | apply Kd.R_drew)); exact HO228.out) hb)
            have n6_ := Aside0.mk (blk_below (g := gb203) (o := .cells #[.int .u8 a0_0, .string a0_1, .slice A0_2 l0_2.length c0_2, .slice A0_3 l0_3.length c0_3, .slice A0_4 l0_4.length c0_4] 26 (0, 0)) (by (with_reducible repeat (first | refine blk_drewN ?_ _ | refine blk_drew ?_ | refine blk_alloc ?_ _)); exact BK203.out) hb)
            have n7_ := Aside0.mk (blk_below (g := gb204) (o := .cells #[.int .u8 a1_0, .string a1_1, .slice A1_2 l1_2.length c1_2, .slice A1_3 l1_3.length c1_3, .slice A1_4 l1_4.length c1_4] 26 (0, 0)) (by (with_reducible repeat (first | refine blk_drewN ?_ _ | refine blk_drew ?_ | refine blk_alloc ?_ _)); exact BK204.out) hb)
            have n8_ := Aside0.mk (blk_below (g := gb217) (o := .cells #[.int .u8 t206, .string t207, .slice Ao30 t208.length co30, .slice Ao31 t211.length co31, .slice Ao32 t214.length co32] 26 (0, 0)) (by (with_reducible repeat (first | refine blk_drewN ?_ _ | refine blk_drew ?_ | refine blk_alloc ?_ _)); exact BK217.out) hb)
            have n9_ := Aside0.mk (blk_below (g := gb229) (o := .cells #[.int .u8 t218, .string t219, .slice Ao40 t220.length co40, .slice Ao41 t223.length co41, .slice Ao42 t226.length co42] 26 (0, 0)) (by (with_reducible repeat (first | refine blk_drewN ?_ _ | refine blk_drew ?_ | refine blk_alloc ?_ _)); exact BK229.out) hb)
            have n10_ := Aside0.mk (below_step (by repeat (first | (with_reducible first | exact HB.out | apply below_alloc | apply pw_below_drewN | apply below_drew1 | refine below_set ?_ GE203.out | refine below_set ?_ GE204.out | refine below_set ?_ GE217.out | refine below_set ?_ GE229.out) | exact HB.out)) hb)
            clear HO210
            clear HO213
            clear HO216
            clear HO222
            clear HO225
            clear HO228
            clear BK203
            clear BK204
            clear BK217
            clear BK229
            clear HB
            have HO210 := n0_
            have HO213 := n1_
            have HO216 := n2_
            have HO222 := n3_
            have HO225 := n4_
            have HO228 := n5_
            have BK203 := n6_
            have BK204 := n7_
            have BK217 := n8_
            have BK229 := n9_
            have HB := n10_
            clear n0_ n1_ n2_ n3_ n4_ n5_ n6_ n7_ n8_ n9_ n10_
            (try clear hb)
            (try clear hb2)
            (try clear hk)
            (try clear hi)
            refine hK.out _ _ ⟨(blk_cell BK217.out 0).trans rfl, (blk_cell BK217.out 1).trans rfl, (blk_cell BK217.out 2).trans rfl, (blk_cell BK217.out 3).trans rfl, (blk_cell BK217.out 4).trans rfl, (blk_cell BK229.out 0).trans rfl, (blk_cell BK229.out 1).trans rfl, (blk_cell BK229.out 2).trans rfl, (blk_cell BK229.out 3).trans rfl, (blk_cell BK229.out 4).trans rfl⟩ (fun hHeld => ?_)
            clear hK K
            refine norm_ (a' := ?_) ?_ ?_
            rotate_left
            · show Act.put _ (some 32) _ = _
              simp only [Act.put, List.setIfInBounds_toArray, List.set_cons_zero, List.set_cons_succ, i64_w, i32_w]
              rfl
            refine pure_ (i := 20) (N := some 33) (v := ?_) (a' := ?_) #[true, true, true, true, true, true, true, true, true, true, true, true, true, true, true, true, true, true, true, true, true, false, false, false, false, false, false, false, false, false, false, false, false, false, false, false, false] rfl rfl (any_of HT_.out (by kernel_rfl)) (fun _ _ _ h => h) (Or.inl ⟨by rfl, ?_⟩) ?_ ?_
            rotate_left
            · intro w'
              go_simp
              with_reducible rfl
            rotate_left
            · simp only [Act.put, List.setIfInBounds_toArray, List.set_cons_zero, List.set_cons_succ, i64_w, i32_w]
              rfl
            refine pure_ (i := 21) (N := some 34) (v := ?_) (a' := ?_) #[true, true, true, true, true, true, true, true, true, true, true, true, true, true, true, true, true, true, true, true, true, true, false, false, false, false, false, false, false, false, false, false, false, false, false, false, false] rfl rfl (any_of HT_.out (by kernel_rfl)) (fun _ _ _ h => h) (Or.inl ⟨by rfl, ?_⟩) ?_ ?_
            rotate_left
            · intro w'
              go_simp
              with_reducible rfl
            rotate_left
            · simp only [Act.put, List.setIfInBounds_toArray, List.set_cons_zero, List.set_cons_succ, i64_w, i32_w]
              rfl
            refine pure_ (i := 22) (N := some 35) (v := ?_) (a' := ?_) #[true, true, true, true, true, true, true, true, true, true, true, true, true, true, true, true, true, true, true, true, true, true, true, false, false, false, false, false, false, false, false, false, false, false, false, false, false] rfl rfl (any_of HT_.out (by kernel_rfl)) (fun _ _ _ h => h) (Or.inl ⟨by rfl, ?_⟩) ?_ ?_
            rotate_left
            · intro w'
              go_simp
              with_reducible rfl
            rotate_left
            · simp only [Act.put, List.setIfInBounds_toArray, List.set_cons_zero, List.set_cons_succ, i64_w, i32_w]
              rfl
            refine take_ (i := 23) (N := some 36) (v := ?_) (a' := ?_) #[true, true, true, true, true, true, true, true, true, true, true, true, true, true, true, true, true, true, true, true, true, true, true, true, false, false, false, false, false, false, false, false, false, false, false, false, false] rfl rfl (take_ofW HT_.out HW_.out (by kernel_rfl)) (fun _ _ _ h => h) (Or.inl ⟨by rfl, ?_⟩) hHeld ?_ ?_
            rotate_left
            · rintro w' ⟨s0, s1, s2, s3, s4, s5, s6, s7, s8, s9⟩
              go_simp
              with_reducible rfl
            rotate_left
            · simp only [Act.put, List.setIfInBounds_toArray, List.set_cons_zero, List.set_cons_succ, i64_w, i32_w]
              rfl
            refine take_ (i := 24) (N := some 37) (v := ?_) (a' := ?_) #[true, true, true, true, true, true, true, true, true, true, true, true, true, true, true, true, true, true, true, true, true, true, true, true, true, false, false, false, false, false, false, false, false, false, false, false, false] rfl rfl (take_ofW HT_.out HW_.out (by kernel_rfl)) (fun _ _ _ h => h) (Or.inl ⟨by rfl, ?_⟩) hHeld ?_ ?_
            rotate_left
            · rintro w' ⟨s0, s1, s2, s3, s4, s5, s6, s7, s8, s9⟩
              go_simp
              with_reducible rfl
            rotate_left
            · simp only [Act.put, List.setIfInBounds_toArray, List.set_cons_zero, List.set_cons_succ, i64_w, i32_w]
              rfl
            refine take_ (i := 26) (N := some 39) (v := ?_) (a' := ?_) #[true, true, true, true, true, true, true, true, true, true, true, true, true, true, true, true, true, true, true, true, true, true, true, true, true, false, true, false, false, false, false, false, false, false, false, false, false] rfl rfl (take_ofW HT_.out HW_.out (by kernel_rfl)) (fun _ _ _ h => h) (Or.inl ⟨by rfl, ?_⟩) hHeld ?_ ?_
            rotate_left
            · rintro w' ⟨s0, s1, s2, s3, s4, s5, s6, s7, s8, s9⟩
              go_simp
              with_reducible rfl
            rotate_left
            · simp only [Act.put, List.setIfInBounds_toArray, List.set_cons_zero, List.set_cons_succ, i64_w, i32_w]
              rfl
            refine take_ (i := 27) (N := some 40) (v := ?_) (a' := ?_) #[true, true, true, true, true, true, true, true, true, true, true, true, true, true, true, true, true, true, true, true, true, true, true, true, true, false, true, true, false, false, false, false, false, false, false, false, false] rfl rfl (take_ofW HT_.out HW_.out (by kernel_rfl)) (fun _ _ _ h => h) (Or.inl ⟨by rfl, ?_⟩) hHeld ?_ ?_
            rotate_left
            · rintro w' ⟨s0, s1, s2, s3, s4, s5, s6, s7, s8, s9⟩
              go_simp
              with_reducible rfl
            rotate_left
            · simp only [Act.put, List.setIfInBounds_toArray, List.set_cons_zero, List.set_cons_succ, i64_w, i32_w]
              rfl
            refine one_ (i := 25) (N := some 38) #[true, true, true, true, true, true, true, true, true, true, true, true, true, true, true, true, true, true, true, true, true, true, true, true, true, true, true, true, false, false, false, false, false, false, false, false, false] rfl rfl (one_of HT_.out (by kernel_rfl)) (by decide) (fun K hK => ?_)
            refine goes_ Try.func23 (by kernel_rfl) rfl #[.agg #[.int .u8 t206, .string t207, .slice Ao30 t208.length co30, .slice Ao31 t211.length co31, .slice Ao32 t214.length co32], .agg #[.int .u8 t218, .string t219, .slice Ao40 t220.length co40, .slice Ao41 t223.length co41, .slice Ao42 t226.length co42]] (by rfl) rfl rfl (by (try simp only [List.map_toArray, List.map_cons, List.map_nil]); first | done | rfl | (simp only [List.length_drop, List.length_take]; rfl)) ?_
            with_reducible refine (value_Same.calls k t206 t207 _ _ t208 _ _ t211 _ _ t214 t218 t219 _ _ t220 _ _ t223 _ _ t226 t236 _ ?side1 ?side2 ?side3 ?side4 ?side5 ?side6 ?side7 ?side8 ?side9 ?side10 ?side11 ?side12 A16.out).mono ?_
            (case side1 => repeat (first | exact (Kd.R_reads' HO210.out).2.2 | (with_reducible refine Kd.C_alloc ?_ _) | (with_reducible refine Kd.C_drewN ?_ _) | (with_reducible refine Kd.C_drew ?_)))
            (case side2 => exact (Kd.R_reads' HO210.out).2.1)
            (case side3 => repeat (first | exact (Kd.R_reads' HO213.out).2.2 | (with_reducible refine Kd.C_alloc ?_ _) | (with_reducible refine Kd.C_drewN ?_ _) | (with_reducible refine Kd.C_drew ?_)))
            (case side4 => exact (Kd.R_reads' HO213.out).2.1)
            (case side5 => repeat (first | exact (Kd.R_reads' HO216.out).2.2 | (with_reducible refine Kd.C_alloc ?_ _) | (with_reducible refine Kd.C_drewN ?_ _) | (with_reducible refine Kd.C_drew ?_)))
            (case side6 => exact (Kd.R_reads' HO216.out).2.1)
            (case side7 => repeat (first | exact (Kd.R_reads' HO222.out).2.2 | (with_reducible refine Kd.C_alloc ?_ _) | (with_reducible refine Kd.C_drewN ?_ _) | (with_reducible refine Kd.C_drew ?_)))
            (case side8 => exact (Kd.R_reads' HO222.out).2.1)
            (case side9 => repeat (first | exact (Kd.R_reads' HO225.out).2.2 | (with_reducible refine Kd.C_alloc ?_ _) | (with_reducible refine Kd.C_drewN ?_ _) | (with_reducible refine Kd.C_drew ?_)))
            (case side10 => exact (Kd.R_reads' HO225.out).2.1)
            (case side11 => repeat (first | exact (Kd.R_reads' HO228.out).2.2 | (with_reducible refine Kd.C_alloc ?_ _) | (with_reducible refine Kd.C_drewN ?_ _) | (with_reducible refine Kd.C_drew ?_)))
            (case side12 => exact (Kd.R_reads' HO228.out).2.1)
            rintro e w51 ⟨rfl, hb⟩
            refine ⟨_, rfl, ?_⟩
            have n0_ := Aside0.mk (Kd.R_below (by (with_reducible repeat (first | apply Kd.R_alloc | apply Kd.R_drewN | apply Kd.R_drew)); exact HO210.out) hb)
            have n1_ := Aside0.mk (Kd.R_below (by (with_reducible repeat (first | apply Kd.R_alloc | apply Kd.R_drewN | apply Kd.R_drew)); exact HO213.out) hb)
            have n2_ := Aside0.mk (Kd.R_below (by (with_reducible repeat (first | apply Kd.R_alloc | apply Kd.R_drewN | apply Kd.R_drew)); exact HO216.out) hb)
            have n3_ := Aside0.mk (Kd.R_below (by (with_reducible repeat (first | apply Kd.R_alloc | apply Kd.R_drewN | apply Kd.R_drew)); exact HO222.out) hb)
            have n4_ := Aside0.mk (Kd.R_below (by (with_reducible repeat (first | apply Kd.R_alloc | apply Kd.R_drewN | apply Kd.R_drew)); exact HO225.out) hb)
            have n5_ := Aside0.mk (Kd.R_below (by (with_reducible repeat (first | apply Kd.R_alloc | apply Kd.R_drewN | apply Kd.R_drew)); exact HO228.out) hb)
            have n6_ := Aside0.mk (blk_below (g := gb203) (o := .cells #[.int .u8 a0_0, .string a0_1, .slice A0_2 l0_2.length c0_2, .slice A0_3 l0_3.length c0_3, .slice A0_4 l0_4.length c0_4] 26 (0, 0)) (by (with_reducible repeat (first | refine blk_drewN ?_ _ | refine blk_drew ?_ | refine blk_alloc ?_ _)); exact BK203.out) hb)
            have n7_ := Aside0.mk (blk_below (g := gb204) (o := .cells #[.int .u8 a1_0, .string a1_1, .slice A1_2 l1_2.length c1_2, .slice A1_3 l1_3.length c1_3, .slice A1_4 l1_4.length c1_4] 26 (0, 0)) (by (with_reducible repeat (first | refine blk_drewN ?_ _ | refine blk_drew ?_ | refine blk_alloc ?_ _)); exact BK204.out) hb)
            have n8_ := Aside0.mk (blk_below (g := gb217) (o := .cells #[.int .u8 t206, .string t207, .slice Ao30 t208.length co30, .slice Ao31 t211.length co31, .slice Ao32 t214.length co32] 26 (0, 0)) (by (with_reducible repeat (first | refine blk_drewN ?_ _ | refine blk_drew ?_ | refine blk_alloc ?_ _)); exact BK217.out) hb)
            have n9_ := Aside0.mk (blk_below (g := gb229) (o := .cells #[.int .u8 t218, .string t219, .slice Ao40 t220.length co40, .slice Ao41 t223.length co41, .slice Ao42 t226.length co42] 26 (0, 0)) (by (with_reducible repeat (first | refine blk_drewN ?_ _ | refine blk_drew ?_ | refine blk_alloc ?_ _)); exact BK229.out) hb)
            have n10_ := Aside0.mk (below_step (by repeat (first | (with_reducible first | exact HB.out | apply below_alloc | apply pw_below_drewN | apply below_drew1 | refine below_set ?_ GE203.out | refine below_set ?_ GE204.out | refine below_set ?_ GE217.out | refine below_set ?_ GE229.out) | exact HB.out)) hb)
            clear HO210
            clear HO213
            clear HO216
            clear HO222
            clear HO225
            clear HO228
            clear BK203
            clear BK204
            clear BK217
            clear BK229
            clear HB
            have HO210 := n0_
            have HO213 := n1_
            have HO216 := n2_
            have HO222 := n3_
            have HO225 := n4_
            have HO228 := n5_
            have BK203 := n6_
            have BK204 := n7_
            have BK217 := n8_
            have BK229 := n9_
            have HB := n10_
            clear n0_ n1_ n2_ n3_ n4_ n5_ n6_ n7_ n8_ n9_ n10_
            (try clear hb)
            (try clear hb2)
            (try clear hk)
            (try clear hi)
            refine hK.out _ _ ⟨(blk_cell BK217.out 0).trans rfl, (blk_cell BK217.out 1).trans rfl, (blk_cell BK217.out 2).trans rfl, (blk_cell BK217.out 3).trans rfl, (blk_cell BK217.out 4).trans rfl, (blk_cell BK229.out 0).trans rfl, (blk_cell BK229.out 1).trans rfl, (blk_cell BK229.out 2).trans rfl, (blk_cell BK229.out 3).trans rfl, (blk_cell BK229.out 4).trans rfl⟩ (fun hHeld => ?_)
            clear hK K
            refine norm_ (a' := ?_) ?_ ?_
            rotate_left
            · show Act.put _ (some 38) _ = _
              simp only [Act.put, List.setIfInBounds_toArray, List.set_cons_zero, List.set_cons_succ, i64_w, i32_w]
              rfl
            refine one_ (i := 28) (N := some 41) #[true, true, true, true, true, true, true, true, true, true, true, true, true, true, true, true, true, true, true, true, true, true, true, true, true, true, true, true, true, false, false, false, false, false, false, false, false] rfl rfl (one_of HT_.out (by kernel_rfl)) (by decide) (fun K hK => ?_)
            refine goes_ Try.func28 (by kernel_rfl) rfl #[.agg #[.int .u8 t206, .string t207, .slice Ao30 t208.length co30, .slice Ao31 t211.length co31, .slice Ao32 t214.length co32], .agg #[.int .u8 t218, .string t219, .slice Ao40 t220.length co40, .slice Ao41 t223.length co41, .slice Ao42 t226.length co42]] (by rfl) rfl rfl (by (try simp only [List.map_toArray, List.map_cons, List.map_nil]); first | done | rfl | (simp only [List.length_drop, List.length_take]; rfl)) ?_
            with_reducible refine (tipstaffref09_Same.calls k t206 t207 _ _ t208 _ _ t211 _ _ t214 t218 t219 _ _ t220 _ _ t223 _ _ t226 t237 _ ?side1 ?side2 ?side3 ?side4 ?side5 ?side6 ?side7 ?side8 ?side9 ?side10 ?side11 ?side12 A17.out).mono ?_
            (case side1 => repeat (first | exact (Kd.R_reads' HO210.out).2.2 | (with_reducible refine Kd.C_alloc ?_ _) | (with_reducible refine Kd.C_drewN ?_ _) | (with_reducible refine Kd.C_drew ?_)))
            (case side2 => exact (Kd.R_reads' HO210.out).2.1)
            (case side3 => repeat (first | exact (Kd.R_reads' HO213.out).2.2 | (with_reducible refine Kd.C_alloc ?_ _) | (with_reducible refine Kd.C_drewN ?_ _) | (with_reducible refine Kd.C_drew ?_)))
            (case side4 => exact (Kd.R_reads' HO213.out).2.1)
            (case side5 => repeat (first | exact (Kd.R_reads' HO216.out).2.2 | (with_reducible refine Kd.C_alloc ?_ _) | (with_reducible refine Kd.C_drewN ?_ _) | (with_reducible refine Kd.C_drew ?_)))
            (case side6 => exact (Kd.R_reads' HO216.out).2.1)
            (case side7 => repeat (first | exact (Kd.R_reads' HO222.out).2.2 | (with_reducible refine Kd.C_alloc ?_ _) | (with_reducible refine Kd.C_drewN ?_ _) | (with_reducible refine Kd.C_drew ?_)))
            (case side8 => exact (Kd.R_reads' HO222.out).2.1)
            (case side9 => repeat (first | exact (Kd.R_reads' HO225.out).2.2 | (with_reducible refine Kd.C_alloc ?_ _) | (with_reducible refine Kd.C_drewN ?_ _) | (with_reducible refine Kd.C_drew ?_)))
            (case side10 => exact (Kd.R_reads' HO225.out).2.1)
            (case side11 => repeat (first | exact (Kd.R_reads' HO228.out).2.2 | (with_reducible refine Kd.C_alloc ?_ _) | (with_reducible refine Kd.C_drewN ?_ _) | (with_reducible refine Kd.C_drew ?_)))
            (case side12 => exact (Kd.R_reads' HO228.out).2.1)
            rintro e w52 ⟨rfl, hb⟩
            refine ⟨_, rfl, ?_⟩
            have n0_ := Aside0.mk (Kd.R_below (by (with_reducible repeat (first | apply Kd.R_alloc | apply Kd.R_drewN | apply Kd.R_drew)); exact HO210.out) hb)
            have n1_ := Aside0.mk (Kd.R_below (by (with_reducible repeat (first | apply Kd.R_alloc | apply Kd.R_drewN | apply Kd.R_drew)); exact HO213.out) hb)
            have n2_ := Aside0.mk (Kd.R_below (by (with_reducible repeat (first | apply Kd.R_alloc | apply Kd.R_drewN | apply Kd.R_drew)); exact HO216.out) hb)
            have n3_ := Aside0.mk (Kd.R_below (by (with_reducible repeat (first | apply Kd.R_alloc | apply Kd.R_drewN | apply Kd.R_drew)); exact HO222.out) hb)
            have n4_ := Aside0.mk (Kd.R_below (by (with_reducible repeat (first | apply Kd.R_alloc | apply Kd.R_drewN | apply Kd.R_drew)); exact HO225.out) hb)
            have n5_ := Aside0.mk (Kd.R_below (by (with_reducible repeat (first | apply Kd.R_alloc | apply Kd.R_drewN | apply Kd.R_drew)); exact HO228.out) hb)
            have n6_ := Aside0.mk (blk_below (g := gb203) (o := .cells #[.int .u8 a0_0, .string a0_1, .slice A0_2 l0_2.length c0_2, .slice A0_3 l0_3.length c0_3, .slice A0_4 l0_4.length c0_4] 26 (0, 0)) (by (with_reducible repeat (first | refine blk_drewN ?_ _ | refine blk_drew ?_ | refine blk_alloc ?_ _)); exact BK203.out) hb)
            have n7_ := Aside0.mk (blk_below (g := gb204) (o := .cells #[.int .u8 a1_0, .string a1_1, .slice A1_2 l1_2.length c1_2, .slice A1_3 l1_3.length c1_3, .slice A1_4 l1_4.length c1_4] 26 (0, 0)) (by (with_reducible repeat (first | refine blk_drewN ?_ _ | refine blk_drew ?_ | refine blk_alloc ?_ _)); exact BK204.out) hb)
            have n8_ := Aside0.mk (blk_below (g := gb217) (o := .cells #[.int .u8 t206, .string t207, .slice Ao30 t208.length co30, .slice Ao31 t211.length co31, .slice Ao32 t214.length co32] 26 (0, 0)) (by (with_reducible repeat (first | refine blk_drewN ?_ _ | refine blk_drew ?_ | refine blk_alloc ?_ _)); exact BK217.out) hb)
            have n9_ := Aside0.mk (blk_below (g := gb229) (o := .cells #[.int .u8 t218, .string t219, .slice Ao40 t220.length co40, .slice Ao41 t223.length co41, .slice Ao42 t226.length co42] 26 (0, 0)) (by (with_reducible repeat (first | refine blk_drewN ?_ _ | refine blk_drew ?_ | refine blk_alloc ?_ _)); exact BK229.out) hb)
            have n10_ := Aside0.mk (below_step (by repeat (first | (with_reducible first | exact HB.out | apply below_alloc | apply pw_below_drewN | apply below_drew1 | refine below_set ?_ GE203.out | refine below_set ?_ GE204.out | refine below_set ?_ GE217.out | refine below_set ?_ GE229.out) | exact HB.out)) hb)
            clear HO210
            clear HO213
            clear HO216
            clear HO222
            clear HO225
            clear HO228
            clear BK203
            clear BK204
            clear BK217
            clear BK229
            clear HB
            have HO210 := n0_
            have HO213 := n1_
            have HO216 := n2_
            have HO222 := n3_
            have HO225 := n4_
            have HO228 := n5_
            have BK203 := n6_
            have BK204 := n7_
            have BK217 := n8_
            have BK229 := n9_
            have HB := n10_
            clear n0_ n1_ n2_ n3_ n4_ n5_ n6_ n7_ n8_ n9_ n10_
            (try clear hb)
            (try clear hb2)
            (try clear hk)
            (try clear hi)
            refine hK.out _ _ ⟨(blk_cell BK217.out 0).trans rfl, (blk_cell BK217.out 1).trans rfl, (blk_cell BK217.out 2).trans rfl, (blk_cell BK217.out 3).trans rfl, (blk_cell BK217.out 4).trans rfl, (blk_cell BK229.out 0).trans rfl, (blk_cell BK229.out 1).trans rfl, (blk_cell BK229.out 2).trans rfl, (blk_cell BK229.out 3).trans rfl, (blk_cell BK229.out 4).trans rfl⟩ (fun hHeld => ?_)
            clear hK K
            refine norm_ (a' := ?_) ?_ ?_
            rotate_left
            · show Act.put _ (some 41) _ = _
              simp only [Act.put, List.setIfInBounds_toArray, List.set_cons_zero, List.set_cons_succ, i64_w, i32_w]
              rfl
            refine pure_ (i := 29) (N := some 42) (v := ?_) (a' := ?_) #[true, true, true, true, true, true, true, true, true, true, true, true, true, true, true, true, true, true, true, true, true, true, true, true, true, true, true, true, true, true, false, false, false, false, false, false, false] rfl rfl (any_of HT_.out (by kernel_rfl)) (fun _ _ _ h => h) (Or.inl ⟨by rfl, ?_⟩) ?_ ?_
            rotate_left
            · intro w'
              go_simp
              with_reducible rfl
            rotate_left
            · simp only [Act.put, List.setIfInBounds_toArray, List.set_cons_zero, List.set_cons_succ, i64_w, i32_w]
              rfl
            refine pure_ (i := 30) (N := some 43) (v := ?_) (a' := ?_) #[true, true, true, true, true, true, true, true, true, true, true, true, true, true, true, true, true, true, true, true, true, true, true, true, true, true, true, true, true, true, true, false, false, false, false, false, false] rfl rfl (any_of HT_.out (by kernel_rfl)) (fun _ _ _ h => h) (Or.inl ⟨by rfl, ?_⟩) ?_ ?_
            rotate_left
            · intro w'
              go_simp
              with_reducible rfl
            rotate_left
            · simp only [Act.put, List.setIfInBounds_toArray, List.set_cons_zero, List.set_cons_succ, i64_w, i32_w]
              rfl
            refine pure_ (i := 31) (N := some 44) (v := ?_) (a' := ?_) #[true, true, true, true, true, true, true, true, true, true, true, true, true, true, true, true, true, true, true, true, true, true, true, true, true, true, true, true, true, true, true, true, false, false, false, false, false] rfl rfl (any_of HT_.out (by kernel_rfl)) (fun _ _ _ h => h) (Or.inl ⟨by rfl, ?_⟩) ?_ ?_
            rotate_left
            · intro w'
              go_simp
              with_reducible rfl
            rotate_left
            · simp only [Act.put, List.setIfInBounds_toArray, List.set_cons_zero, List.set_cons_succ, i64_w, i32_w]
              rfl
            refine take_ (i := 32) (N := some 45) (v := ?_) (a' := ?_) #[true, true, true, true, true, true, true, true, true, true, true, true, true, true, true, true, true, true, true, true, true, true, true, true, true, true, true, true, true, true, true, true, true, false, false, false, false] rfl rfl (take_ofW HT_.out HW_.out (by kernel_rfl)) (fun _ _ _ h => h) (Or.inl ⟨by rfl, ?_⟩) hHeld ?_ ?_
            rotate_left
            · rintro w' ⟨s0, s1, s2, s3, s4, s5, s6, s7, s8, s9⟩
              go_simp
              with_reducible rfl
            rotate_left
            · simp only [Act.put, List.setIfInBounds_toArray, List.set_cons_zero, List.set_cons_succ, i64_w, i32_w]
              rfl
            refine take_ (i := 33) (N := some 46) (v := ?_) (a' := ?_) #[true, true, true, true, true, true, true, true, true, true, true, true, true, true, true, true, true, true, true, true, true, true, true, true, true, true, true, true, true, true, true, true, true, true, false, false, false] rfl rfl (take_ofW HT_.out HW_.out (by kernel_rfl)) (fun _ _ _ h => h) (Or.inl ⟨by rfl, ?_⟩) hHeld ?_ ?_
            rotate_left
            · rintro w' ⟨s0, s1, s2, s3, s4, s5, s6, s7, s8, s9⟩
              go_simp
              with_reducible rfl
            rotate_left
            · simp only [Act.put, List.setIfInBounds_toArray, List.set_cons_zero, List.set_cons_succ, i64_w, i32_w]
              rfl
            refine one_ (i := 34) (N := some 47) #[true, true, true, true, true, true, true, true, true, true, true, true, true, true, true, true, true, true, true, true, true, true, true, true, true, true, true, true, true, true, true, true, true, true, true, false, false] rfl rfl (one_of HT_.out (by kernel_rfl)) (by decide) (fun K hK => ?_)
            refine goes_ Try.func23 (by kernel_rfl) rfl #[.agg #[.int .u8 t206, .string t207, .slice Ao30 t208.length co30, .slice Ao31 t211.length co31, .slice Ao32 t214.length co32], .agg #[.int .u8 t206, .string t207, .slice Ao30 t208.length co30, .slice Ao31 t211.length co31, .slice Ao32 t214.length co32]] (by rfl) rfl rfl (by (try simp only [List.map_toArray, List.map_cons, List.map_nil]); first | done | rfl | (simp only [List.length_drop, List.length_take]; rfl)) ?_
            with_reducible refine (value_Same.calls k t206 t207 _ _ t208 _ _ t211 _ _ t214 t206 t207 _ _ t208 _ _ t211 _ _ t214 t238 _ ?side1 ?side2 ?side3 ?side4 ?side5 ?side6 ?side7 ?side8 ?side9 ?side10 ?side11 ?side12 A19.out).mono ?_
            (case side1 => repeat (first | exact (Kd.R_reads' HO210.out).2.2 | (with_reducible refine Kd.C_alloc ?_ _) | (with_reducible refine Kd.C_drewN ?_ _) | (with_reducible refine Kd.C_drew ?_)))
            (case side2 => exact (Kd.R_reads' HO210.out).2.1)
            (case side3 => repeat (first | exact (Kd.R_reads' HO213.out).2.2 | (with_reducible refine Kd.C_alloc ?_ _) | (with_reducible refine Kd.C_drewN ?_ _) | (with_reducible refine Kd.C_drew ?_)))
            (case side4 => exact (Kd.R_reads' HO213.out).2.1)
            (case side5 => repeat (first | exact (Kd.R_reads' HO216.out).2.2 | (with_reducible refine Kd.C_alloc ?_ _) | (with_reducible refine Kd.C_drewN ?_ _) | (with_reducible refine Kd.C_drew ?_)))
            (case side6 => exact (Kd.R_reads' HO216.out).2.1)
            (case side7 => repeat (first | exact (Kd.R_reads' HO210.out).2.2 | (with_reducible refine Kd.C_alloc ?_ _) | (with_reducible refine Kd.C_drewN ?_ _) | (with_reducible refine Kd.C_drew ?_)))
            (case side8 => exact (Kd.R_reads' HO210.out).2.1)
            (case side9 => repeat (first | exact (Kd.R_reads' HO213.out).2.2 | (with_reducible refine Kd.C_alloc ?_ _) | (with_reducible refine Kd.C_drewN ?_ _) | (with_reducible refine Kd.C_drew ?_)))
            (case side10 => exact (Kd.R_reads' HO213.out).2.1)
            (case side11 => repeat (first | exact (Kd.R_reads' HO216.out).2.2 | (with_reducible refine Kd.C_alloc ?_ _) | (with_reducible refine Kd.C_drewN ?_ _) | (with_reducible refine Kd.C_drew ?_)))
            (case side12 => exact (Kd.R_reads' HO216.out).2.1)
            rintro e w53 ⟨rfl, hb⟩
            refine ⟨_, rfl, ?_⟩
            have n0_ := Aside0.mk (Kd.R_below (by (with_reducible repeat (first | apply Kd.R_alloc | apply Kd.R_drewN | apply Kd.R_drew)); exact HO210.out) hb)
            have n1_ := Aside0.mk (Kd.R_below (by (with_reducible repeat (first | apply Kd.R_alloc | apply Kd.R_drewN | apply Kd.R_drew)); exact HO213.out) hb)
            have n2_ := Aside0.mk (Kd.R_below (by (with_reducible repeat (first | apply Kd.R_alloc | apply Kd.R_drewN | apply Kd.R_drew)); exact HO216.out) hb)
            have n3_ := Aside0.mk (Kd.R_below (by (with_reducible repeat (first | apply Kd.R_alloc | apply Kd.R_drewN | apply Kd.R_drew)); exact HO222.out) hb)
            have n4_ := Aside0.mk (Kd.R_below (by (with_reducible repeat (first | apply Kd.R_alloc | apply Kd.R_drewN | apply Kd.R_drew)); exact HO225.out) hb)
            have n5_ := Aside0.mk (Kd.R_below (by (with_reducible repeat (first | apply Kd.R_alloc | apply Kd.R_drewN | apply Kd.R_drew)); exact HO228.out) hb)
            have n6_ := Aside0.mk (blk_below (g := gb203) (o := .cells #[.int .u8 a0_0, .string a0_1, .slice A0_2 l0_2.length c0_2, .slice A0_3 l0_3.length c0_3, .slice A0_4 l0_4.length c0_4] 26 (0, 0)) (by (with_reducible repeat (first | refine blk_drewN ?_ _ | refine blk_drew ?_ | refine blk_alloc ?_ _)); exact BK203.out) hb)
            have n7_ := Aside0.mk (blk_below (g := gb204) (o := .cells #[.int .u8 a1_0, .string a1_1, .slice A1_2 l1_2.length c1_2, .slice A1_3 l1_3.length c1_3, .slice A1_4 l1_4.length c1_4] 26 (0, 0)) (by (with_reducible repeat (first | refine blk_drewN ?_ _ | refine blk_drew ?_ | refine blk_alloc ?_ _)); exact BK204.out) hb)
            have n8_ := Aside0.mk (blk_below (g := gb217) (o := .cells #[.int .u8 t206, .string t207, .slice Ao30 t208.length co30, .slice Ao31 t211.length co31, .slice Ao32 t214.length co32] 26 (0, 0)) (by (with_reducible repeat (first | refine blk_drewN ?_ _ | refine blk_drew ?_ | refine blk_alloc ?_ _)); exact BK217.out) hb)
            have n9_ := Aside0.mk (blk_below (g := gb229) (o := .cells #[.int .u8 t218, .string t219, .slice Ao40 t220.length co40, .slice Ao41 t223.length co41, .slice Ao42 t226.length co42] 26 (0, 0)) (by (with_reducible repeat (first | refine blk_drewN ?_ _ | refine blk_drew ?_ | refine blk_alloc ?_ _)); exact BK229.out) hb)
            have n10_ := Aside0.mk (below_step (by repeat (first | (with_reducible first | exact HB.out | apply below_alloc | apply pw_below_drewN | apply below_drew1 | refine below_set ?_ GE203.out | refine below_set ?_ GE204.out | refine below_set ?_ GE217.out | refine below_set ?_ GE229.out) | exact HB.out)) hb)
            clear HO210
            clear HO213
            clear HO216
            clear HO222
            clear HO225
            clear HO228
            clear BK203
            clear BK204
            clear BK217
            clear BK229
            clear HB
            have HO210 := n0_
            have HO213 := n1_
            have HO216 := n2_
            have HO222 := n3_
            have HO225 := n4_
            have HO228 := n5_
            have BK203 := n6_
            have BK204 := n7_
            have BK217 := n8_
            have BK229 := n9_
            have HB := n10_
            clear n0_ n1_ n2_ n3_ n4_ n5_ n6_ n7_ n8_ n9_ n10_
            (try clear hb)
            (try clear hb2)
            (try clear hk)
            (try clear hi)
            refine hK.out _ _ ⟨(blk_cell BK217.out 0).trans rfl, (blk_cell BK217.out 1).trans rfl, (blk_cell BK217.out 2).trans rfl, (blk_cell BK217.out 3).trans rfl, (blk_cell BK217.out 4).trans rfl, (blk_cell BK229.out 0).trans rfl, (blk_cell BK229.out 1).trans rfl, (blk_cell BK229.out 2).trans rfl, (blk_cell BK229.out 3).trans rfl, (blk_cell BK229.out 4).trans rfl⟩ (fun hHeld => ?_)
            clear hK K
            refine norm_ (a' := ?_) ?_ ?_
            rotate_left
            · show Act.put _ (some 47) _ = _
              simp only [Act.put, List.setIfInBounds_toArray, List.set_cons_zero, List.set_cons_succ, i64_w, i32_w]
              rfl
            refine pure_ (i := 35) (N := some 48) (v := ?_) (a' := ?_) #[true, true, true, true, true, true, true, true, true, true, true, true, true, true, true, true, true, true, true, true, true, true, true, true, true, true, true, true, true, true, true, true, true, true, true, true, false] rfl rfl (any_of HT_.out (by kernel_rfl)) (fun _ _ _ h => h) (Or.inl ⟨by rfl, ?_⟩) ?_ ?_
            rotate_left
            · intro w'
              go_simp
              with_reducible rfl
            rotate_left
            · simp only [Act.put, List.setIfInBounds_toArray, List.set_cons_zero, List.set_cons_succ, i64_w, i32_w]
              rfl
            refine pure_ (i := 36) (N := some 4) (v := ?_) (a' := ?_) #[true, true, true, true, true, true, true, true, true, true, true, true, true, true, true, true, true, true, true, true, true, true, true, true, true, true, true, true, true, true, true, true, true, true, true, true, true] rfl rfl (any_of HT_.out (by kernel_rfl)) (fun _ _ _ h => h) (Or.inl ⟨by rfl, ?_⟩) ?_ ?_
            rotate_left
            · intro w'
              go_simp
              with_reducible rfl
            rotate_left
            · simp only [Act.put, List.setIfInBounds_toArray, List.set_cons_zero, List.set_cons_succ, i64_w, i32_w]
              rfl
            refine done_ (done_of HT_.out (by kernel_rfl)) ?_
            try go_wp2
            all_goals go_ret
            all_goals exact ⟨by first | rfl | (simp [errW_none, errW_some] <;> rfl) | (simp [*, errW_none, errW_some] <;> rfl), by repeat (first | (with_reducible first | exact HB.out | apply below_alloc | apply pw_below_drewN | apply below_drew1 | refine below_set ?_ GE203.out | refine below_set ?_ GE204.out | refine below_set ?_ GE217.out | refine below_set ?_ GE229.out) | exact HB.out)⟩
          · rw [if_neg c18] at H
            have c18b0 : (t236 == t237) = false := by (first | exact c18 | (simp; done) | (have h_ := c18; simp at h_; done) | (have h_ := c18; simp at h_ ⊢; first | done | exact h_))
            (try (have c18b1 : decide (t236 = t237) = false := by (first | exact c18 | (simp; done) | (have h_ := c18; simp at h_; done) | (have h_ := c18; simp at h_ ⊢; first | done | exact h_))))
            (try (have c18b2 : (t236 == t237) = false := by (first | exact c18 | (simp; done) | (have h_ := c18; simp at h_; done) | (have h_ := c18; simp at h_ ⊢; first | done | exact h_))))
            (try (have c18b3 : ¬ (t236 = t237) := by (first | exact c18 | (simp; done) | (have h_ := c18; simp at h_; done) | (have h_ := c18; simp at h_ ⊢; first | done | exact h_))))
            clear c18
            exact absurd (HT.out ▸ H) (by simp)
        · rw [if_neg c15] at H
          have c15b0 : (t234 == t235) = false := beq_eq_false_iff_ne.mpr c15
          have c15b1 : (t234 != t235) = true := bne_iff_ne.mpr c15
          exact absurd (HT.out ▸ H) (by simp)
      · rw [if_neg c12] at H
        have c12b0 : (t232.toList == t233.toList) = false := beq_eq_false_iff_ne.mpr c12
        have c12b1 : (t232.toList != t233.toList) = true := bne_iff_ne.mpr c12
        exact absurd (HT.out ▸ H) (by simp)
    · rw [if_neg c9] at H
      have c9b0 : (t230 == t231) = false := by (first | exact c9 | (simp; done) | (have h_ := c9; simp at h_; done) | (have h_ := c9; simp at h_ ⊢; first | done | exact h_))
      (try (have c9b1 : decide (t230 = t231) = false := by (first | exact c9 | (simp; done) | (have h_ := c9; simp at h_; done) | (have h_ := c9; simp at h_ ⊢; first | done | exact h_))))
      (try (have c9b2 : (t230 == t231) = false := by (first | exact c9 | (simp; done) | (have h_ := c9; simp at h_; done) | (have h_ := c9; simp at h_ ⊢; first | done | exact h_))))
      (try (have c9b3 : ¬ (t230 = t231) := by (first | exact c9 | (simp; done) | (have h_ := c9; simp at h_; done) | (have h_ := c9; simp at h_ ⊢; first | done | exact h_))))
      clear c9
      exact absurd (HT.out ▸ H) (by simp)
  · replace c6 := Bool.eq_false_iff.mpr c6
    subst c6
    have H1 : (some false) = some r := by rw [if_neg (show ¬ (false = true) by decide)] at H; exact H
    clear H
    have H := H1
    clear H1
    exact absurd (HT.out ▸ H) (by simp)
end Go.Proofs.Ytbbgiedfkklojaa.X
