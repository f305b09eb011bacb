-- Written by a program of the session (wip/xprint.py): the kit's printer, beside contracts of the session's own.
import Derived.Test.YtbbgiedfkklojaaXx31
namespace Go.Proofs.Ytbbgiedfkklojaa.X
open Go.RowKit Go.Proofs.YtbbgiedfkklojaaW.PrintWords Go.Proofs.YtbbgiedfkklojaaW.PrintLast Go.Proofs.YtbbgiedfkklojaaW.PrintMore
attribute [local go_sem] binOp_str_gtr binOp_str_leq binOp_str_geq max2_int min2_int max_two min_two max_three min_three max_four min_four   -- for this text's walks alone
set_option linter.unusedVariables false
set_option linter.unusedSimpArgs false
set_option maxHeartbeats 8000000 in
set_option maxRecDepth 100000 in
theorem tipstafflaw09_ValueKinds.callsB (k : Nat) (a0_0 : Int) (a0_1 : ByteArray) (A0_2 : Option Addr) (c0_2 : Nat) (l0_2 : List ByteArray) (A0_3 : Option Addr) (c0_3 : Nat) (l0_3 : List (S60)) (A0_4 : Option Addr) (c0_4 : Nat) (l0_4 : List (S62)) (a1_0 : Int) (a1_1 : ByteArray) (A1_2 : Option Addr) (c1_2 : Nat) (l1_2 : List ByteArray) (A1_3 : Option Addr) (c1_3 : Nat) (l1_3 : List (S60)) (A1_4 : Option Addr) (c1_4 : Nat) (l1_4 : List (S62)) (r : Bool) (w : World) (hr0_2 : Kd.C Kd.string w A0_2 l0_2.length l0_2) (hc0_2 : l0_2.length ≤ c0_2) (hr0_3 : Kd.C k60 w A0_3 l0_3.length l0_3) (hc0_3 : l0_3.length ≤ c0_3) (hr0_4 : Kd.C k62 w A0_4 l0_4.length l0_4) (hc0_4 : l0_4.length ≤ c0_4) (hr1_2 : Kd.C Kd.string w A1_2 l1_2.length l1_2) (hc1_2 : l1_2.length ≤ c1_2) (hr1_3 : Kd.C k60 w A1_3 l1_3.length l1_3) (hc1_3 : l1_3.length ≤ c1_3) (hr1_4 : Kd.C k62 w A1_4 l1_4.length l1_4) (hc1_4 : l1_4.length ≤ c1_4) (h : tipstafflaw09_ValueKinds.f k a0_0 a0_1 l0_2 l0_3 l0_4 a1_0 a1_1 l1_2 l1_3 l1_4 = some r) (hT : r = true) (hW : ∀ r0 r1 r2 r3 r4 s0 s1 s2 s3 s4, tipstaffref09_Fit.f k a0_0 a0_1 l0_2 l0_3 l0_4 = some (r0, r1, r2, r3, r4) → tipstaffref09_Fit.f k a1_0 a1_1 l1_2 l1_3 l1_4 = some (s0, s1, s2, s3, s4) → r0 ≠ s0) :
    Calls Try.prog 12 #[.agg #[.int .u8 a0_0, .string a0_1, .slice A0_2 l0_2.length c0_2, .slice A0_3 l0_3.length c0_3, .slice A0_4 l0_4.length c0_4], .agg #[.int .u8 a1_0, .string a1_1, .slice A1_2 l1_2.length c1_2, .slice A1_3 l1_3.length c1_3, .slice A1_4 l1_4.length c1_4]] w fun e w' => e = .returned (.bool r) ∧ Below w.heap.size w w' := by
  have HW := Aside0.mk hW
  clear hW
  have HT := Aside0.mk hT
  clear hT
  have hu26 := Try.underlying26
  have HR0_2 := Aside0.mk hr0_2
  have HC0_2 := Aside0.mk hc0_2
  clear hr0_2 hc0_2
  have HR0_3 := Aside0.mk hr0_3
  have HC0_3 := Aside0.mk hc0_3
  clear hr0_3 hc0_3
  have HR0_4 := Aside0.mk hr0_4
  have HC0_4 := Aside0.mk hc0_4
  clear hr0_4 hc0_4
  have HR1_2 := Aside0.mk hr1_2
  have HC1_2 := Aside0.mk hc1_2
  clear hr1_2 hc1_2
  have HR1_3 := Aside0.mk hr1_3
  have HC1_3 := Aside0.mk hc1_3
  clear hr1_3 hc1_3
  have HR1_4 := Aside0.mk hr1_4
  have HC1_4 := Aside0.mk hc1_4
  clear hr1_4 hc1_4
  have HB := Aside0.mk (Below.refl w.heap.size w)
  have H : ((tipstafflaw09_shown.f).bind fun t447 => ((tipstaffref09_Fit.f k a0_0 a0_1 l0_2 l0_3 l0_4).bind fun bt448 => ((tipstaffref09_Fit.f k a1_0 a1_1 l1_2 l1_3 l1_4).bind fun bt460 => (if t447 = true then ((value_Same.f k bt448.1 bt448.2.1 bt448.2.2.1 bt448.2.2.2.1 bt448.2.2.2.2 bt460.1 bt460.2.1 bt460.2.2.1 bt460.2.2.2.1 bt460.2.2.2.2).bind fun t473 => ((value_Same.f k bt460.1 bt460.2.1 bt460.2.2.1 bt460.2.2.2.1 bt460.2.2.2.2 bt448.1 bt448.2.1 bt448.2.2.1 bt448.2.2.2.1 bt448.2.2.2.2).bind fun t474 => (if (t473 == t474) = true then (if bt448.1 = bt460.1 then ((value_Same.f k bt448.1 bt448.2.1 bt448.2.2.1 bt448.2.2.2.1 bt448.2.2.2.2 ((bt448.1 + 1) % 256) bt448.2.1 bt448.2.2.1 bt448.2.2.2.1 bt448.2.2.2.2).bind fun t475 => (if t475 = true then (some false) else ((value_Type.f bt448.1 bt448.2.1 bt448.2.2.1 bt448.2.2.2.1 bt448.2.2.2.2).bind fun t476 => ((value_Size.f k bt448.1 bt448.2.1 bt448.2.2.1 bt448.2.2.2.1 bt448.2.2.2.2).bind fun t477 => (if ((t476.toList == ([110, 111, 110, 101] : List UInt8)) == (t477 == 0)) = true then ((value_Type.f bt448.1 bt448.2.1 bt448.2.2.1 bt448.2.2.2.1 bt448.2.2.2.2).bind fun t478 => ((value_Type.f bt460.1 bt460.2.1 bt460.2.2.1 bt460.2.2.2.1 bt460.2.2.2.2).bind fun t479 => (some ((t478.toList == t479.toList) == (bt448.1 == bt460.1))))) else (some false)))))) else ((value_Same.f k bt448.1 bt448.2.1 bt448.2.2.1 bt448.2.2.2.1 bt448.2.2.2.2 bt460.1 bt460.2.1 bt460.2.2.1 bt460.2.2.2.1 bt460.2.2.2.2).bind fun t480 => (if t480 = true then (some false) else ((value_Same.f k bt448.1 bt448.2.1 bt448.2.2.1 bt448.2.2.2.1 bt448.2.2.2.2 ((bt448.1 + 1) % 256) bt448.2.1 bt448.2.2.1 bt448.2.2.2.1 bt448.2.2.2.2).bind fun t481 => (if t481 = true then (some false) else ((value_Type.f bt448.1 bt448.2.1 bt448.2.2.1 bt448.2.2.2.1 bt448.2.2.2.2).bind fun t482 => ((value_Size.f k bt448.1 bt448.2.1 bt448.2.2.1 bt448.2.2.2.1 bt448.2.2.2.2).bind fun t483 => (if ((t482.toList == ([110, 111, 110, 101] : List UInt8)) == (t483 == 0)) = true then ((value_Type.f bt448.1 bt448.2.1 bt448.2.2.1 bt448.2.2.2.1 bt448.2.2.2.2).bind fun t484 => ((value_Type.f bt460.1 bt460.2.1 bt460.2.2.1 bt460.2.2.2.1 bt460.2.2.2.2).bind fun t485 => (some ((t484.toList == t485.toList) == (bt448.1 == bt460.1))))) else (some false))))))))) else (some false)))) else (some false))))) = some r := h
  clear h
  replace H := Option.bind_eq_some_iff.mp H
  obtain ⟨t447, A30, H⟩ := H
  replace H : ((tipstaffref09_Fit.f k a0_0 a0_1 l0_2 l0_3 l0_4).bind fun bt448 => ((tipstaffref09_Fit.f k a1_0 a1_1 l1_2 l1_3 l1_4).bind fun bt460 => (if t447 = true then ((value_Same.f k bt448.1 bt448.2.1 bt448.2.2.1 bt448.2.2.2.1 bt448.2.2.2.2 bt460.1 bt460.2.1 bt460.2.2.1 bt460.2.2.2.1 bt460.2.2.2.2).bind fun t473 => ((value_Same.f k bt460.1 bt460.2.1 bt460.2.2.1 bt460.2.2.2.1 bt460.2.2.2.2 bt448.1 bt448.2.1 bt448.2.2.1 bt448.2.2.2.1 bt448.2.2.2.2).bind fun t474 => (if (t473 == t474) = true then (if bt448.1 = bt460.1 then ((value_Same.f k bt448.1 bt448.2.1 bt448.2.2.1 bt448.2.2.2.1 bt448.2.2.2.2 ((bt448.1 + 1) % 256) bt448.2.1 bt448.2.2.1 bt448.2.2.2.1 bt448.2.2.2.2).bind fun t475 => (if t475 = true then (some false) else ((value_Type.f bt448.1 bt448.2.1 bt448.2.2.1 bt448.2.2.2.1 bt448.2.2.2.2).bind fun t476 => ((value_Size.f k bt448.1 bt448.2.1 bt448.2.2.1 bt448.2.2.2.1 bt448.2.2.2.2).bind fun t477 => (if ((t476.toList == ([110, 111, 110, 101] : List UInt8)) == (t477 == 0)) = true then ((value_Type.f bt448.1 bt448.2.1 bt448.2.2.1 bt448.2.2.2.1 bt448.2.2.2.2).bind fun t478 => ((value_Type.f bt460.1 bt460.2.1 bt460.2.2.1 bt460.2.2.2.1 bt460.2.2.2.2).bind fun t479 => (some ((t478.toList == t479.toList) == (bt448.1 == bt460.1))))) else (some false)))))) else ((value_Same.f k bt448.1 bt448.2.1 bt448.2.2.1 bt448.2.2.2.1 bt448.2.2.2.2 bt460.1 bt460.2.1 bt460.2.2.1 bt460.2.2.2.1 bt460.2.2.2.2).bind fun t480 => (if t480 = true then (some false) else ((value_Same.f k bt448.1 bt448.2.1 bt448.2.2.1 bt448.2.2.2.1 bt448.2.2.2.2 ((bt448.1 + 1) % 256) bt448.2.1 bt448.2.2.1 bt448.2.2.2.1 bt448.2.2.2.2).bind fun t481 => (if t481 = true then (some false) else ((value_Type.f bt448.1 bt448.2.1 bt448.2.2.1 bt448.2.2.2.1 bt448.2.2.2.2).bind fun t482 => ((value_Size.f k bt448.1 bt448.2.1 bt448.2.2.1 bt448.2.2.2.1 bt448.2.2.2.2).bind fun t483 => (if ((t482.toList == ([110, 111, 110, 101] : List UInt8)) == (t483 == 0)) = true then ((value_Type.f bt448.1 bt448.2.1 bt448.2.2.1 bt448.2.2.2.1 bt448.2.2.2.2).bind fun t484 => ((value_Type.f bt460.1 bt460.2.1 bt460.2.2.1 bt460.2.2.2.1 bt460.2.2.2.2).bind fun t485 => (some ((t484.toList == t485.toList) == (bt448.1 == bt460.1))))) else (some false))))))))) else (some false)))) else (some false)))) = some r := H
  have A3 := Aside0.mk A30
  clear A30
  replace H := Option.bind_eq_some_iff.mp H
  obtain ⟨⟨t448, t449, t450, t453, t456⟩, A40, H⟩ := H
  replace H : ((tipstaffref09_Fit.f k a1_0 a1_1 l1_2 l1_3 l1_4).bind fun bt460 => (if t447 = true then ((value_Same.f k t448 t449 t450 t453 t456 bt460.1 bt460.2.1 bt460.2.2.1 bt460.2.2.2.1 bt460.2.2.2.2).bind fun t473 => ((value_Same.f k bt460.1 bt460.2.1 bt460.2.2.1 bt460.2.2.2.1 bt460.2.2.2.2 t448 t449 t450 t453 t456).bind fun t474 => (if (t473 == t474) = true then (if t448 = bt460.1 then ((value_Same.f k t448 t449 t450 t453 t456 ((t448 + 1) % 256) t449 t450 t453 t456).bind fun t475 => (if t475 = true then (some false) else ((value_Type.f t448 t449 t450 t453 t456).bind fun t476 => ((value_Size.f k t448 t449 t450 t453 t456).bind fun t477 => (if ((t476.toList == ([110, 111, 110, 101] : List UInt8)) == (t477 == 0)) = true then ((value_Type.f t448 t449 t450 t453 t456).bind fun t478 => ((value_Type.f bt460.1 bt460.2.1 bt460.2.2.1 bt460.2.2.2.1 bt460.2.2.2.2).bind fun t479 => (some ((t478.toList == t479.toList) == (t448 == bt460.1))))) else (some false)))))) else ((value_Same.f k t448 t449 t450 t453 t456 bt460.1 bt460.2.1 bt460.2.2.1 bt460.2.2.2.1 bt460.2.2.2.2).bind fun t480 => (if t480 = true then (some false) else ((value_Same.f k t448 t449 t450 t453 t456 ((t448 + 1) % 256) t449 t450 t453 t456).bind fun t481 => (if t481 = true then (some false) else ((value_Type.f t448 t449 t450 t453 t456).bind fun t482 => ((value_Size.f k t448 t449 t450 t453 t456).bind fun t483 => (if ((t482.toList == ([110, 111, 110, 101] : List UInt8)) == (t483 == 0)) = true then ((value_Type.f t448 t449 t450 t453 t456).bind fun t484 => ((value_Type.f bt460.1 bt460.2.1 bt460.2.2.1 bt460.2.2.2.1 bt460.2.2.2.2).bind fun t485 => (some ((t484.toList == t485.toList) == (t448 == bt460.1))))) else (some false))))))))) else (some false)))) else (some false))) = some r := H
  have A4 := Aside0.mk A40
  clear A40
  replace H := Option.bind_eq_some_iff.mp H
  obtain ⟨⟨t460, t461, t462, t465, t468⟩, A50, H⟩ := H
  replace H : (if t447 = true then ((value_Same.f k t448 t449 t450 t453 t456 t460 t461 t462 t465 t468).bind fun t473 => ((value_Same.f k t460 t461 t462 t465 t468 t448 t449 t450 t453 t456).bind fun t474 => (if (t473 == t474) = true then (if t448 = t460 then ((value_Same.f k t448 t449 t450 t453 t456 ((t448 + 1) % 256) t449 t450 t453 t456).bind fun t475 => (if t475 = true then (some false) else ((value_Type.f t448 t449 t450 t453 t456).bind fun t476 => ((value_Size.f k t448 t449 t450 t453 t456).bind fun t477 => (if ((t476.toList == ([110, 111, 110, 101] : List UInt8)) == (t477 == 0)) = true then ((value_Type.f t448 t449 t450 t453 t456).bind fun t478 => ((value_Type.f t460 t461 t462 t465 t468).bind fun t479 => (some ((t478.toList == t479.toList) == (t448 == t460))))) else (some false)))))) else ((value_Same.f k t448 t449 t450 t453 t456 t460 t461 t462 t465 t468).bind fun t480 => (if t480 = true then (some false) else ((value_Same.f k t448 t449 t450 t453 t456 ((t448 + 1) % 256) t449 t450 t453 t456).bind fun t481 => (if t481 = true then (some false) else ((value_Type.f t448 t449 t450 t453 t456).bind fun t482 => ((value_Size.f k t448 t449 t450 t453 t456).bind fun t483 => (if ((t482.toList == ([110, 111, 110, 101] : List UInt8)) == (t483 == 0)) = true then ((value_Type.f t448 t449 t450 t453 t456).bind fun t484 => ((value_Type.f t460 t461 t462 t465 t468).bind fun t485 => (some ((t484.toList == t485.toList) == (t448 == t460))))) else (some false))))))))) else (some false)))) else (some false)) = some r := H
  have A5 := Aside0.mk A50
  clear A50
  by_cases c6 : t447 = true
  · subst c6
    have H1 : ((value_Same.f k t448 t449 t450 t453 t456 t460 t461 t462 t465 t468).bind fun t473 => ((value_Same.f k t460 t461 t462 t465 t468 t448 t449 t450 t453 t456).bind fun t474 => (if (t473 == t474) = true then (if t448 = t460 then ((value_Same.f k t448 t449 t450 t453 t456 ((t448 + 1) % 256) t449 t450 t453 t456).bind fun t475 => (if t475 = true then (some false) else ((value_Type.f t448 t449 t450 t453 t456).bind fun t476 => ((value_Size.f k t448 t449 t450 t453 t456).bind fun t477 => (if ((t476.toList == ([110, 111, 110, 101] : List UInt8)) == (t477 == 0)) = true then ((value_Type.f t448 t449 t450 t453 t456).bind fun t478 => ((value_Type.f t460 t461 t462 t465 t468).bind fun t479 => (some ((t478.toList == t479.toList) == (t448 == t460))))) else (some false)))))) else ((value_Same.f k t448 t449 t450 t453 t456 t460 t461 t462 t465 t468).bind fun t480 => (if t480 = true then (some false) else ((value_Same.f k t448 t449 t450 t453 t456 ((t448 + 1) % 256) t449 t450 t453 t456).bind fun t481 => (if t481 = true then (some false) else ((value_Type.f t448 t449 t450 t453 t456).bind fun t482 => ((value_Size.f k t448 t449 t450 t453 t456).bind fun t483 => (if ((t482.toList == ([110, 111, 110, 101] : List UInt8)) == (t483 == 0)) = true then ((value_Type.f t448 t449 t450 t453 t456).bind fun t484 => ((value_Type.f t460 t461 t462 t465 t468).bind fun t485 => (some ((t484.toList == t485.toList) == (t448 == t460))))) else (some false))))))))) else (some false)))) = some r := by rw [if_pos rfl] at H; exact H
    clear H
    have H := H1
    clear H1
    replace H := Option.bind_eq_some_iff.mp H
    obtain ⟨t473, A70, H⟩ := H
    replace H : ((value_Same.f k t460 t461 t462 t465 t468 t448 t449 t450 t453 t456).bind fun t474 => (if (t473 == t474) = true then (if t448 = t460 then ((value_Same.f k t448 t449 t450 t453 t456 ((t448 + 1) % 256) t449 t450 t453 t456).bind fun t475 => (if t475 = true then (some false) else ((value_Type.f t448 t449 t450 t453 t456).bind fun t476 => ((value_Size.f k t448 t449 t450 t453 t456).bind fun t477 => (if ((t476.toList == ([110, 111, 110, 101] : List UInt8)) == (t477 == 0)) = true then ((value_Type.f t448 t449 t450 t453 t456).bind fun t478 => ((value_Type.f t460 t461 t462 t465 t468).bind fun t479 => (some ((t478.toList == t479.toList) == (t448 == t460))))) else (some false)))))) else ((value_Same.f k t448 t449 t450 t453 t456 t460 t461 t462 t465 t468).bind fun t480 => (if t480 = true then (some false) else ((value_Same.f k t448 t449 t450 t453 t456 ((t448 + 1) % 256) t449 t450 t453 t456).bind fun t481 => (if t481 = true then (some false) else ((value_Type.f t448 t449 t450 t453 t456).bind fun t482 => ((value_Size.f k t448 t449 t450 t453 t456).bind fun t483 => (if ((t482.toList == ([110, 111, 110, 101] : List UInt8)) == (t483 == 0)) = true then ((value_Type.f t448 t449 t450 t453 t456).bind fun t484 => ((value_Type.f t460 t461 t462 t465 t468).bind fun t485 => (some ((t484.toList == t485.toList) == (t448 == t460))))) else (some false))))))))) else (some false))) = some r := H
    have A7 := Aside0.mk A70
    clear A70
    replace H := Option.bind_eq_some_iff.mp H
    obtain ⟨t474, A80, H⟩ := H
    replace H : (if (t473 == t474) = true then (if t448 = t460 then ((value_Same.f k t448 t449 t450 t453 t456 ((t448 + 1) % 256) t449 t450 t453 t456).bind fun t475 => (if t475 = true then (some false) else ((value_Type.f t448 t449 t450 t453 t456).bind fun t476 => ((value_Size.f k t448 t449 t450 t453 t456).bind fun t477 => (if ((t476.toList == ([110, 111, 110, 101] : List UInt8)) == (t477 == 0)) = true then ((value_Type.f t448 t449 t450 t453 t456).bind fun t478 => ((value_Type.f t460 t461 t462 t465 t468).bind fun t479 => (some ((t478.toList == t479.toList) == (t448 == t460))))) else (some false)))))) else ((value_Same.f k t448 t449 t450 t453 t456 t460 t461 t462 t465 t468).bind fun t480 => (if t480 = true then (some false) else ((value_Same.f k t448 t449 t450 t453 t456 ((t448 + 1) % 256) t449 t450 t453 t456).bind fun t481 => (if t481 = true then (some false) else ((value_Type.f t448 t449 t450 t453 t456).bind fun t482 => ((value_Size.f k t448 t449 t450 t453 t456).bind fun t483 => (if ((t482.toList == ([110, 111, 110, 101] : List UInt8)) == (t483 == 0)) = true then ((value_Type.f t448 t449 t450 t453 t456).bind fun t484 => ((value_Type.f t460 t461 t462 t465 t468).bind fun t485 => (some ((t484.toList == t485.toList) == (t448 == t460))))) else (some false))))))))) else (some false)) = some r := H
    have A8 := Aside0.mk A80
    clear A80
    by_cases c9 : (t473 == t474) = true
    · rw [if_pos c9] at H
      have c9b0 : (t473 == t474) = true := c9
      (try (have c9b1 : decide (t473 = t474) = true := by (first | exact c9 | (simp; done) | (have h_ := c9; simp at h_; done) | (have h_ := c9; simp at h_ ⊢; first | done | exact h_))))
      (try (have c9b2 : (t473 == t474) = true := by (first | exact c9 | (simp; done) | (have h_ := c9; simp at h_; done) | (have h_ := c9; simp at h_ ⊢; first | done | exact h_))))
      clear c9
      by_cases c10 : t448 = t460
      · exact absurd c10 (HW.out _ _ _ _ _ _ _ _ _ _ A4.out A5.out)
      · rw [if_neg c10] at H
        have c10b0 : (t448 == t460) = false := beq_eq_false_iff_ne.mpr c10
        have c10b1 : (t448 != t460) = true := bne_iff_ne.mpr c10
        replace H := Option.bind_eq_some_iff.mp H
        obtain ⟨t480, A1320, H⟩ := H
        replace H : (if t480 = true then (some false) else ((value_Same.f k t448 t449 t450 t453 t456 ((t448 + 1) % 256) t449 t450 t453 t456).bind fun t481 => (if t481 = true then (some false) else ((value_Type.f t448 t449 t450 t453 t456).bind fun t482 => ((value_Size.f k t448 t449 t450 t453 t456).bind fun t483 => (if ((t482.toList == ([110, 111, 110, 101] : List UInt8)) == (t483 == 0)) = true then ((value_Type.f t448 t449 t450 t453 t456).bind fun t484 => ((value_Type.f t460 t461 t462 t465 t468).bind fun t485 => (some ((t484.toList == t485.toList) == (t448 == t460))))) else (some false))))))) = some r := H
        have A132 := Aside0.mk A1320
        clear A1320
        by_cases c133 : t480 = true
        · subst c133
          have H1 : (some false) = some r := by rw [if_pos rfl] at H; exact H
          clear H
          have H := H1
          clear H1
          exact absurd (HT.out ▸ H) (by simp)
        · replace c133 := Bool.eq_false_iff.mpr c133
          subst c133
          have H1 : ((value_Same.f k t448 t449 t450 t453 t456 ((t448 + 1) % 256) t449 t450 t453 t456).bind fun t481 => (if t481 = true then (some false) else ((value_Type.f t448 t449 t450 t453 t456).bind fun t482 => ((value_Size.f k t448 t449 t450 t453 t456).bind fun t483 => (if ((t482.toList == ([110, 111, 110, 101] : List UInt8)) == (t483 == 0)) = true then ((value_Type.f t448 t449 t450 t453 t456).bind fun t484 => ((value_Type.f t460 t461 t462 t465 t468).bind fun t485 => (some ((t484.toList == t485.toList) == (t448 == t460))))) else (some false)))))) = some r := by rw [if_neg (show ¬ (false = true) by decide)] at H; exact H
          clear H
          have H := H1
          clear H1
          replace H := Option.bind_eq_some_iff.mp H
          obtain ⟨t481, A1700, H⟩ := H
          replace H : (if t481 = true then (some false) else ((value_Type.f t448 t449 t450 t453 t456).bind fun t482 => ((value_Size.f k t448 t449 t450 t453 t456).bind fun t483 => (if ((t482.toList == ([110, 111, 110, 101] : List UInt8)) == (t483 == 0)) = true then ((value_Type.f t448 t449 t450 t453 t456).bind fun t484 => ((value_Type.f t460 t461 t462 t465 t468).bind fun t485 => (some ((t484.toList == t485.toList) == (t448 == t460))))) else (some false))))) = some r := H
          have A170 := Aside0.mk A1700
          clear A1700
          by_cases c171 : t481 = true
          · subst c171
            have H1 : (some false) = some r := by rw [if_pos rfl] at H; exact H
            clear H
            have H := H1
            clear H1
            exact absurd (HT.out ▸ H) (by simp)
          · replace c171 := Bool.eq_false_iff.mpr c171
            subst c171
            have H1 : ((value_Type.f t448 t449 t450 t453 t456).bind fun t482 => ((value_Size.f k t448 t449 t450 t453 t456).bind fun t483 => (if ((t482.toList == ([110, 111, 110, 101] : List UInt8)) == (t483 == 0)) = true then ((value_Type.f t448 t449 t450 t453 t456).bind fun t484 => ((value_Type.f t460 t461 t462 t465 t468).bind fun t485 => (some ((t484.toList == t485.toList) == (t448 == t460))))) else (some false)))) = some r := by rw [if_neg (show ¬ (false = true) by decide)] at H; exact H
            clear H
            have H := H1
            clear H1
            replace H := Option.bind_eq_some_iff.mp H
            obtain ⟨t482, A2090, H⟩ := H
            replace H : ((value_Size.f k t448 t449 t450 t453 t456).bind fun t483 => (if ((t482.toList == ([110, 111, 110, 101] : List UInt8)) == (t483 == 0)) = true then ((value_Type.f t448 t449 t450 t453 t456).bind fun t484 => ((value_Type.f t460 t461 t462 t465 t468).bind fun t485 => (some ((t484.toList == t485.toList) == (t448 == t460))))) else (some false))) = some r := H
            have A209 := Aside0.mk A2090
            clear A2090
            replace H := Option.bind_eq_some_iff.mp H
            obtain ⟨t483, A2100, H⟩ := H
            replace H : (if ((t482.toList == ([110, 111, 110, 101] : List UInt8)) == (t483 == 0)) = true then ((value_Type.f t448 t449 t450 t453 t456).bind fun t484 => ((value_Type.f t460 t461 t462 t465 t468).bind fun t485 => (some ((t484.toList == t485.toList) == (t448 == t460))))) else (some false)) = some r := H
            have A210 := Aside0.mk A2100
            clear A2100
            by_cases c211 : ((t482.toList == ([110, 111, 110, 101] : List UInt8)) == (t483 == 0)) = true
            · rw [if_pos c211] at H
              have c211b0 : ((t482.toList == ([110, 111, 110, 101] : List UInt8)) == (t483 == 0)) = true := c211
              (try (have c211b1 : decide ((t482.toList == ([110, 111, 110, 101] : List UInt8)) = (t483 == 0)) = true := by (first | exact c211 | (simp; done) | (have h_ := c211; simp at h_; done) | (have h_ := c211; simp at h_ ⊢; first | done | exact h_))))
              (try (have c211b2 : ((t482.toList == ([110, 111, 110, 101] : List UInt8)) == (t483 == 0)) = true := by (first | exact c211 | (simp; done) | (have h_ := c211; simp at h_; done) | (have h_ := c211; simp at h_ ⊢; first | done | exact h_))))
              clear c211
              replace H := Option.bind_eq_some_iff.mp H
              obtain ⟨t484, A2120, H⟩ := H
              replace H : ((value_Type.f t460 t461 t462 t465 t468).bind fun t485 => (some ((t484.toList == t485.toList) == (t448 == t460)))) = some r := H
              have A212 := Aside0.mk A2120
              clear A2120
              replace H := Option.bind_eq_some_iff.mp H
              obtain ⟨t485, A2130, H⟩ := H
              replace H : (some ((t484.toList == t485.toList) == (t448 == t460))) = some r := H
              have A213 := Aside0.mk A2130
              clear A2130
              obtain rfl := Option.some.inj H
              go_enter Try.func12, Try.ntmps12
              try go_wp2_with (first | ((with_reducible refine gate_dst (N := 2) rfl ?_); refine box_event ?hg (N := 2) ?hd (cs := #[.int .u8 a0_0, .string a0_1, .slice A0_2 l0_2.length c0_2, .slice A0_3 l0_3.length c0_3, .slice A0_4 l0_4.length c0_4]) (t := 26) ?hr ?_; (case hd => rfl); (case hg => rfl); (case hr => first | (go_simp; done) | (go_simp; rfl)); intro gb445 hg w214 hbox hb; have n0_ := Aside0.mk (below_step (by repeat (first | (with_reducible first | exact HB.out | apply below_alloc | apply pw_below_drewN | apply below_drew1) | exact HB.out)) hb); have n1_ := Aside0.mk (hbox); have n2_ := Aside0.mk ((by rw [hg]; exact (below_size (by repeat (first | (with_reducible first | exact HB.out | apply below_alloc | apply pw_below_drewN | apply below_drew1) | exact HB.out))) : w.heap.size ≤ gb445)); have n3_ := Aside0.mk ((by rw [hg]; exact (below_size (by repeat (first | (with_reducible first | exact HB.out | apply below_alloc | apply pw_below_drewN | apply below_drew1) | exact HB.out))) : w.heap.size ≤ gb445)); clear HB; have HB := n0_; have BK445 := n1_; have GW445 := n2_; have GE445 := n3_; clear n0_ n1_ n2_ n3_; clear hb hbox hg) | ((with_reducible refine gate_dst (N := 3) rfl ?_); refine box_event ?hg (N := 3) ?hd (cs := #[.int .u8 a1_0, .string a1_1, .slice A1_2 l1_2.length c1_2, .slice A1_3 l1_3.length c1_3, .slice A1_4 l1_4.length c1_4]) (t := 26) ?hr ?_; (case hd => rfl); (case hg => rfl); (case hr => first | (go_simp; done) | (go_simp; rfl)); intro gb446 hg w215 hbox hb; have n0_ := Aside0.mk (blk_below (g := gb445) (o := .cells #[.int .u8 a0_0, .string a0_1, .slice A0_2 l0_2.length c0_2, .slice A0_3 l0_3.length c0_3, .slice A0_4 l0_4.length c0_4] 26 (0, 0)) (by (with_reducible repeat (first | refine blk_drewN ?_ _ | refine blk_drew ?_ | refine blk_alloc ?_ _)); exact BK445.out) hb); have n1_ := Aside0.mk (below_step (by repeat (first | (with_reducible first | exact HB.out | apply below_alloc | apply pw_below_drewN | apply below_drew1 | refine below_set ?_ GE445.out) | exact HB.out)) hb); have n2_ := Aside0.mk (hbox); have n3_ := Aside0.mk ((by rw [hg]; exact (below_size (by repeat (first | (with_reducible first | exact HB.out | apply below_alloc | apply pw_below_drewN | apply below_drew1 | refine below_set ?_ GE445.out) | exact HB.out))) : w.heap.size ≤ gb446)); have n4_ := Aside0.mk ((by rw [hg]; exact (below_size (by repeat (first | (with_reducible first | exact HB.out | apply below_alloc | apply pw_below_drewN | apply below_drew1 | refine below_set ?_ GE445.out) | exact HB.out))) : w.heap.size ≤ gb446)); have n5_ := Aside0.mk ((by rw [hg]; exact Nat.ne_of_lt (blk_lt (g := gb445) (o := .cells #[.int .u8 a0_0, .string a0_1, .slice A0_2 l0_2.length c0_2, .slice A0_3 l0_3.length c0_3, .slice A0_4 l0_4.length c0_4] 26 (0, 0)) (by (with_reducible repeat (first | refine blk_drewN ?_ _ | refine blk_drew ?_ | refine blk_alloc ?_ _)); exact BK445.out)) : gb445 ≠ gb446)); have n6_ := Aside0.mk ((by rw [hg]; exact Nat.ne_of_gt (blk_lt (g := gb445) (o := .cells #[.int .u8 a0_0, .string a0_1, .slice A0_2 l0_2.length c0_2, .slice A0_3 l0_3.length c0_3, .slice A0_4 l0_4.length c0_4] 26 (0, 0)) (by (with_reducible repeat (first | refine blk_drewN ?_ _ | refine blk_drew ?_ | refine blk_alloc ?_ _)); exact BK445.out)) : gb446 ≠ gb445)); clear BK445; clear HB; have BK445 := n0_; have HB := n1_; have BK446 := n2_; have GW446 := n3_; have GE446 := n4_; have NB445_446 := n5_; have NB446_445 := n6_; clear n0_ n1_ n2_ n3_ n4_ n5_ n6_; clear hb hbox hg) | ((with_reducible refine gate_callee (f := 39) rfl ?_); refine goesL_ (some 9) rfl rfl Try.func39 (by kernel_rfl) rfl #[] rfl (by (try simp only [List.map_toArray, List.map_cons, List.map_nil]); first | done | rfl | (simp only [List.length_drop, List.length_take]; rfl)) ?_; (with_reducible refine (tipstafflaw09_shown.calls  true _ A3.out).mono ?_); rintro e w216 ⟨rfl, hb⟩; refine ⟨_, rfl, ?_⟩; have n0_ := Aside0.mk (blk_below (g := gb445) (o := .cells #[.int .u8 a0_0, .string a0_1, .slice A0_2 l0_2.length c0_2, .slice A0_3 l0_3.length c0_3, .slice A0_4 l0_4.length c0_4] 26 (0, 0)) (by (with_reducible repeat (first | refine blk_drewN ?_ _ | refine blk_drew ?_ | refine blk_alloc ?_ _)); exact BK445.out) hb); have n1_ := Aside0.mk (blk_below (g := gb446) (o := .cells #[.int .u8 a1_0, .string a1_1, .slice A1_2 l1_2.length c1_2, .slice A1_3 l1_3.length c1_3, .slice A1_4 l1_4.length c1_4] 26 (0, 0)) (by (with_reducible repeat (first | refine blk_drewN ?_ _ | refine blk_drew ?_ | refine blk_alloc ?_ _)); exact BK446.out) hb); have n2_ := Aside0.mk (below_step (by repeat (first | (with_reducible first | exact HB.out | apply below_alloc | apply pw_below_drewN | apply below_drew1 | refine below_set ?_ GE445.out | refine below_set ?_ GE446.out) | exact HB.out)) hb); clear BK445; clear BK446; clear HB; have BK445 := n0_; have BK446 := n1_; have HB := n2_; clear n0_ n1_ n2_; (try clear hb); (try clear hb2); (try clear hk); (try clear hi); have hnb217 := NB445_446.out; have hnc217 := NB446_445.out; have hcz218_0 : w216.cell? ⟨gb445, 0, none⟩ = some (.int .u8 a0_0) := (blk_cell BK445.out 0).trans rfl; have hcz218_1 : w216.cell? ⟨gb445, 1, none⟩ = some (.string a0_1) := (blk_cell BK445.out 1).trans rfl; have hcz218_2 : w216.cell? ⟨gb445, 2, none⟩ = some (.slice A0_2 l0_2.length c0_2) := (blk_cell BK445.out 2).trans rfl; have hcz218_3 : w216.cell? ⟨gb445, 3, none⟩ = some (.slice A0_3 l0_3.length c0_3) := (blk_cell BK445.out 3).trans rfl; have hcz218_4 : w216.cell? ⟨gb445, 4, none⟩ = some (.slice A0_4 l0_4.length c0_4) := (blk_cell BK445.out 4).trans rfl; have hfz218_0 := blk_frozen BK445.out 0; have hfz218_1 := blk_frozen BK445.out 1; have hfz218_2 := blk_frozen BK445.out 2; have hfz218_3 := blk_frozen BK445.out 3; have hfz218_4 := blk_frozen BK445.out 4) | ((with_reducible refine gate_callee (f := 15) rfl ?_); refine goesL_ (some 11) rfl rfl Try.func15 (by kernel_rfl) rfl #[.agg #[.int .u8 a0_0, .string a0_1, .slice A0_2 l0_2.length c0_2, .slice A0_3 l0_3.length c0_3, .slice A0_4 l0_4.length c0_4]] rfl (by (try simp only [List.map_toArray, List.map_cons, List.map_nil]); first | done | rfl | (simp only [List.length_drop, List.length_take]; rfl)) ?_; (with_reducible refine (tipstaffref09_Fit.calls k a0_0 a0_1 _ _ l0_2 _ _ l0_3 _ _ l0_4 t448 t449 t450 t453 t456 _ ?side1 ?side2 ?side3 ?side4 ?side5 ?side6 A4.out).mono ?_); (case side1 => repeat (first | exact (Kd.C_below HR0_2.out HB.out) | (with_reducible refine Kd.C_alloc ?_ _) | (with_reducible refine Kd.C_drewN ?_ _) | (with_reducible refine Kd.C_drew ?_))); (case side2 => exact HC0_2.out); (case side3 => repeat (first | exact (Kd.C_below HR0_3.out HB.out) | (with_reducible refine Kd.C_alloc ?_ _) | (with_reducible refine Kd.C_drewN ?_ _) | (with_reducible refine Kd.C_drew ?_))); (case side4 => exact HC0_3.out); (case side5 => repeat (first | exact (Kd.C_below HR0_4.out HB.out) | (with_reducible refine Kd.C_alloc ?_ _) | (with_reducible refine Kd.C_drewN ?_ _) | (with_reducible refine Kd.C_drew ?_))); (case side6 => exact HC0_4.out); rintro e w219 ⟨v451, v454, v457, rfl, ho0, ho1, ho2, hb⟩; refine ⟨_, rfl, ?_⟩; have n0_ := Aside0.mk (Kd.R_lower ho0 (below_size (by repeat (first | (with_reducible first | exact HB.out | apply below_alloc | apply pw_below_drewN | apply below_drew1 | refine below_set ?_ GE445.out | refine below_set ?_ GE446.out) | exact HB.out)))); have n1_ := Aside0.mk (Kd.R_lower ho1 (below_size (by repeat (first | (with_reducible first | exact HB.out | apply below_alloc | apply pw_below_drewN | apply below_drew1 | refine below_set ?_ GE445.out | refine below_set ?_ GE446.out) | exact HB.out)))); have n2_ := Aside0.mk (Kd.R_lower ho2 (below_size (by repeat (first | (with_reducible first | exact HB.out | apply below_alloc | apply pw_below_drewN | apply below_drew1 | refine below_set ?_ GE445.out | refine below_set ?_ GE446.out) | exact HB.out)))); have n3_ := Aside0.mk (blk_below (g := gb445) (o := .cells #[.int .u8 a0_0, .string a0_1, .slice A0_2 l0_2.length c0_2, .slice A0_3 l0_3.length c0_3, .slice A0_4 l0_4.length c0_4] 26 (0, 0)) (by (with_reducible repeat (first | refine blk_drewN ?_ _ | refine blk_drew ?_ | refine blk_alloc ?_ _)); exact BK445.out) hb); have n4_ := Aside0.mk (blk_below (g := gb446) (o := .cells #[.int .u8 a1_0, .string a1_1, .slice A1_2 l1_2.length c1_2, .slice A1_3 l1_3.length c1_3, .slice A1_4 l1_4.length c1_4] 26 (0, 0)) (by (with_reducible repeat (first | refine blk_drewN ?_ _ | refine blk_drew ?_ | refine blk_alloc ?_ _)); exact BK446.out) hb); have n5_ := Aside0.mk (below_step (by repeat (first | (with_reducible first | exact HB.out | apply below_alloc | apply pw_below_drewN | apply below_drew1 | refine below_set ?_ GE445.out | refine below_set ?_ GE446.out) | exact HB.out)) hb); clear BK445; clear BK446; clear HB; have HO452 := n0_; have HO455 := n1_; have HO458 := n2_; have BK445 := n3_; have BK446 := n4_; have HB := n5_; clear n0_ n1_ n2_ n3_ n4_ n5_; (try clear hb); (try clear hb2); (try clear hk); (try clear hi); (try clear ho0); (try clear ho1); (try clear ho2)) | ((with_reducible refine gate_dst (N := 6) rfl ?_); refine box_event ?hg (N := 6) ?hd (cs := #[.int .u8 0, .string (⟨#[]⟩ : ByteArray), .slice none 0 0, .slice none 0 0, .slice none 0 0]) (t := 26) ?hr ?_; (case hd => rfl); (case hg => rfl); (case hr => first | (go_simp; done) | (go_simp; rfl)); intro gb459 hg w220 hbox hb; have n0_ := Aside0.mk (Kd.R_below (by (with_reducible repeat (first | apply Kd.R_alloc | apply Kd.R_drewN | apply Kd.R_drew)); exact HO452.out) hb); have n1_ := Aside0.mk (Kd.R_below (by (with_reducible repeat (first | apply Kd.R_alloc | apply Kd.R_drewN | apply Kd.R_drew)); exact HO455.out) hb); have n2_ := Aside0.mk (Kd.R_below (by (with_reducible repeat (first | apply Kd.R_alloc | apply Kd.R_drewN | apply Kd.R_drew)); exact HO458.out) hb); have n3_ := Aside0.mk (blk_below (g := gb445) (o := .cells #[.int .u8 a0_0, .string a0_1, .slice A0_2 l0_2.length c0_2, .slice A0_3 l0_3.length c0_3, .slice A0_4 l0_4.length c0_4] 26 (0, 0)) (by (with_reducible repeat (first | refine blk_drewN ?_ _ | refine blk_drew ?_ | refine blk_alloc ?_ _)); exact BK445.out) hb); have n4_ := Aside0.mk (blk_below (g := gb446) (o := .cells #[.int .u8 a1_0, .string a1_1, .slice A1_2 l1_2.length c1_2, .slice A1_3 l1_3.length c1_3, .slice A1_4 l1_4.length c1_4] 26 (0, 0)) (by (with_reducible repeat (first | refine blk_drewN ?_ _ | refine blk_drew ?_ | refine blk_alloc ?_ _)); exact BK446.out) hb); have n5_ := Aside0.mk (below_step (by repeat (first | (with_reducible first | exact HB.out | apply below_alloc | apply pw_below_drewN | apply below_drew1 | refine below_set ?_ GE445.out | refine below_set ?_ GE446.out) | exact HB.out)) hb); have n6_ := Aside0.mk (hbox); have n7_ := Aside0.mk ((by rw [hg]; exact (below_size (by repeat (first | (with_reducible first | exact HB.out | apply below_alloc | apply pw_below_drewN | apply below_drew1 | refine below_set ?_ GE445.out | refine below_set ?_ GE446.out) | exact HB.out))) : w.heap.size ≤ gb459)); have n8_ := Aside0.mk ((by rw [hg]; exact (below_size (by repeat (first | (with_reducible first | exact HB.out | apply below_alloc | apply pw_below_drewN | apply below_drew1 | refine below_set ?_ GE445.out | refine below_set ?_ GE446.out) | exact HB.out))) : w.heap.size ≤ gb459)); have n9_ := Aside0.mk ((by rw [hg]; exact Nat.ne_of_lt (blk_lt (g := gb445) (o := .cells #[.int .u8 a0_0, .string a0_1, .slice A0_2 l0_2.length c0_2, .slice A0_3 l0_3.length c0_3, .slice A0_4 l0_4.length c0_4] 26 (0, 0)) (by (with_reducible repeat (first | refine blk_drewN ?_ _ | refine blk_drew ?_ | refine blk_alloc ?_ _)); exact BK445.out)) : gb445 ≠ gb459)); have n10_ := Aside0.mk ((by rw [hg]; exact Nat.ne_of_gt (blk_lt (g := gb445) (o := .cells #[.int .u8 a0_0, .string a0_1, .slice A0_2 l0_2.length c0_2, .slice A0_3 l0_3.length c0_3, .slice A0_4 l0_4.length c0_4] 26 (0, 0)) (by (with_reducible repeat (first | refine blk_drewN ?_ _ | refine blk_drew ?_ | refine blk_alloc ?_ _)); exact BK445.out)) : gb459 ≠ gb445)); have n11_ := Aside0.mk ((by rw [hg]; exact Nat.ne_of_lt (blk_lt (g := gb446) (o := .cells #[.int .u8 a1_0, .string a1_1, .slice A1_2 l1_2.length c1_2, .slice A1_3 l1_3.length c1_3, .slice A1_4 l1_4.length c1_4] 26 (0, 0)) (by (with_reducible repeat (first | refine blk_drewN ?_ _ | refine blk_drew ?_ | refine blk_alloc ?_ _)); exact BK446.out)) : gb446 ≠ gb459)); have n12_ := Aside0.mk ((by rw [hg]; exact Nat.ne_of_gt (blk_lt (g := gb446) (o := .cells #[.int .u8 a1_0, .string a1_1, .slice A1_2 l1_2.length c1_2, .slice A1_3 l1_3.length c1_3, .slice A1_4 l1_4.length c1_4] 26 (0, 0)) (by (with_reducible repeat (first | refine blk_drewN ?_ _ | refine blk_drew ?_ | refine blk_alloc ?_ _)); exact BK446.out)) : gb459 ≠ gb446)); clear HO452; clear HO455; clear HO458; clear BK445; clear BK446; clear HB; have HO452 := n0_; have HO455 := n1_; have HO458 := n2_; have BK445 := n3_; have BK446 := n4_; have HB := n5_; have BK459 := n6_; have GW459 := n7_; have GE459 := n8_; have NB445_459 := n9_; have NB459_445 := n10_; have NB446_459 := n11_; have NB459_446 := n12_; clear n0_ n1_ n2_ n3_ n4_ n5_ n6_ n7_ n8_ n9_ n10_ n11_ n12_; clear hb hbox hg; have hnb221 := NB459_445.out; have hnc221 := NB445_459.out; have hnb222 := NB459_446.out; have hnc222 := NB446_459.out; have hcz223_0 : w220.cell? ⟨gb459, 0, none⟩ = some (.int .u8 0) := (blk_cell BK459.out 0).trans rfl; have hcz223_1 : w220.cell? ⟨gb459, 1, none⟩ = some (.string (⟨#[]⟩ : ByteArray)) := (blk_cell BK459.out 1).trans rfl; have hcz223_2 : w220.cell? ⟨gb459, 2, none⟩ = some (.slice none 0 0) := (blk_cell BK459.out 2).trans rfl; have hcz223_3 : w220.cell? ⟨gb459, 3, none⟩ = some (.slice none 0 0) := (blk_cell BK459.out 3).trans rfl; have hcz223_4 : w220.cell? ⟨gb459, 4, none⟩ = some (.slice none 0 0) := (blk_cell BK459.out 4).trans rfl; have hfz223_0 := blk_frozen BK459.out 0; have hfz223_1 := blk_frozen BK459.out 1; have hfz223_2 := blk_frozen BK459.out 2; have hfz223_3 := blk_frozen BK459.out 3; have hfz223_4 := blk_frozen BK459.out 4; obtain ⟨Ao224, co224, eo224⟩ := Kd.R_slice HO452.out; subst eo224; obtain ⟨Ao225, co225, eo225⟩ := Kd.R_slice HO455.out; subst eo225; obtain ⟨Ao226, co226, eo226⟩ := Kd.R_slice HO458.out; subst eo226; have hcz227_0 : w220.cell? ⟨gb446, 0, none⟩ = some (.int .u8 a1_0) := (blk_cell BK446.out 0).trans rfl; have hcz227_1 : w220.cell? ⟨gb446, 1, none⟩ = some (.string a1_1) := (blk_cell BK446.out 1).trans rfl; have hcz227_2 : w220.cell? ⟨gb446, 2, none⟩ = some (.slice A1_2 l1_2.length c1_2) := (blk_cell BK446.out 2).trans rfl; have hcz227_3 : w220.cell? ⟨gb446, 3, none⟩ = some (.slice A1_3 l1_3.length c1_3) := (blk_cell BK446.out 3).trans rfl; have hcz227_4 : w220.cell? ⟨gb446, 4, none⟩ = some (.slice A1_4 l1_4.length c1_4) := (blk_cell BK446.out 4).trans rfl; have hfz227_0 := blk_frozen BK446.out 0; have hfz227_1 := blk_frozen BK446.out 1; have hfz227_2 := blk_frozen BK446.out 2; have hfz227_3 := blk_frozen BK446.out 3; have hfz227_4 := blk_frozen BK446.out 4) | ((with_reducible refine gate_callee (f := 15) rfl ?_); refine goesL_ (some 13) rfl rfl Try.func15 (by kernel_rfl) rfl #[.agg #[.int .u8 a1_0, .string a1_1, .slice A1_2 l1_2.length c1_2, .slice A1_3 l1_3.length c1_3, .slice A1_4 l1_4.length c1_4]] rfl (by (try simp only [List.map_toArray, List.map_cons, List.map_nil]); first | done | rfl | (simp only [List.length_drop, List.length_take]; rfl)) ?_; (with_reducible refine (tipstaffref09_Fit.calls k a1_0 a1_1 _ _ l1_2 _ _ l1_3 _ _ l1_4 t460 t461 t462 t465 t468 _ ?side1 ?side2 ?side3 ?side4 ?side5 ?side6 A5.out).mono ?_); (case side1 => exact Kd.C_below HR1_2.out (by repeat (first | (with_reducible first | exact HB.out | apply below_alloc | apply pw_below_drewN | apply below_drew1 | refine below_set ?_ GE445.out | refine below_set ?_ GE446.out | refine below_set ?_ GE459.out) | exact HB.out))); (case side2 => exact HC1_2.out); (case side3 => exact Kd.C_below HR1_3.out (by repeat (first | (with_reducible first | exact HB.out | apply below_alloc | apply pw_below_drewN | apply below_drew1 | refine below_set ?_ GE445.out | refine below_set ?_ GE446.out | refine below_set ?_ GE459.out) | exact HB.out))); (case side4 => exact HC1_3.out); (case side5 => exact Kd.C_below HR1_4.out (by repeat (first | (with_reducible first | exact HB.out | apply below_alloc | apply pw_below_drewN | apply below_drew1 | refine below_set ?_ GE445.out | refine below_set ?_ GE446.out | refine below_set ?_ GE459.out) | exact HB.out))); (case side6 => exact HC1_4.out); rintro e w228 ⟨v463, v466, v469, rfl, ho0, ho1, ho2, hb⟩; refine ⟨_, rfl, ?_⟩; have n0_ := Aside0.mk (Kd.R_elder' (by (with_reducible repeat (first | apply Kd.R_alloc | apply Kd.R_drewN | apply Kd.R_drew)); exact (Kd.R_mono (Kd.R_far (p := ⟨gb459, 4, none⟩) (Kd.R_far (p := ⟨gb459, 3, none⟩) (Kd.R_far (p := ⟨gb459, 2, none⟩) (Kd.R_far (p := ⟨gb459, 1, none⟩) (Kd.R_far (p := ⟨gb459, 0, none⟩) (Kd.R_types HO452.out BK459.out (by decide)) (fun _ hk => hk.2) (.int .u8 t448)) (fun _ hk => hk.2) (.string t449)) (fun _ hk => hk.2) (.slice Ao224 t450.length co224)) (fun _ hk => hk.2) (.slice Ao225 t453.length co225)) (fun _ hk => hk.2) (.slice Ao226 t456.length co226)) (fun _ h_ => h_.1))) (Kd.R_base ho0) hb); have n1_ := Aside0.mk (Kd.R_elder' (by (with_reducible repeat (first | apply Kd.R_alloc | apply Kd.R_drewN | apply Kd.R_drew)); exact (Kd.R_mono (Kd.R_far (p := ⟨gb459, 4, none⟩) (Kd.R_far (p := ⟨gb459, 3, none⟩) (Kd.R_far (p := ⟨gb459, 2, none⟩) (Kd.R_far (p := ⟨gb459, 1, none⟩) (Kd.R_far (p := ⟨gb459, 0, none⟩) (Kd.R_types HO455.out BK459.out (by decide)) (fun _ hk => hk.2) (.int .u8 t448)) (fun _ hk => hk.2) (.string t449)) (fun _ hk => hk.2) (.slice Ao224 t450.length co224)) (fun _ hk => hk.2) (.slice Ao225 t453.length co225)) (fun _ hk => hk.2) (.slice Ao226 t456.length co226)) (fun _ h_ => h_.1))) (Kd.R_base ho1) hb); have n2_ := Aside0.mk (Kd.R_elder' (by (with_reducible repeat (first | apply Kd.R_alloc | apply Kd.R_drewN | apply Kd.R_drew)); exact (Kd.R_mono (Kd.R_far (p := ⟨gb459, 4, none⟩) (Kd.R_far (p := ⟨gb459, 3, none⟩) (Kd.R_far (p := ⟨gb459, 2, none⟩) (Kd.R_far (p := ⟨gb459, 1, none⟩) (Kd.R_far (p := ⟨gb459, 0, none⟩) (Kd.R_types HO458.out BK459.out (by decide)) (fun _ hk => hk.2) (.int .u8 t448)) (fun _ hk => hk.2) (.string t449)) (fun _ hk => hk.2) (.slice Ao224 t450.length co224)) (fun _ hk => hk.2) (.slice Ao225 t453.length co225)) (fun _ hk => hk.2) (.slice Ao226 t456.length co226)) (fun _ h_ => h_.1))) (Kd.R_base ho2) hb); have n3_ := Aside0.mk (Kd.R_lower (Kd.R_new' ho0 (Kd.R_lt (by (with_reducible repeat (first | apply Kd.R_alloc | apply Kd.R_drewN | apply Kd.R_drew)); exact (Kd.R_mono (Kd.R_far (p := ⟨gb459, 4, none⟩) (Kd.R_far (p := ⟨gb459, 3, none⟩) (Kd.R_far (p := ⟨gb459, 2, none⟩) (Kd.R_far (p := ⟨gb459, 1, none⟩) (Kd.R_far (p := ⟨gb459, 0, none⟩) (Kd.R_types HO452.out BK459.out (by decide)) (fun _ hk => hk.2) (.int .u8 t448)) (fun _ hk => hk.2) (.string t449)) (fun _ hk => hk.2) (.slice Ao224 t450.length co224)) (fun _ hk => hk.2) (.slice Ao225 t453.length co225)) (fun _ hk => hk.2) (.slice Ao226 t456.length co226)) (fun _ h_ => h_.1))))) (below_size (by repeat (first | (with_reducible first | exact HB.out | apply below_alloc | apply pw_below_drewN | apply below_drew1 | refine below_set ?_ GE445.out | refine below_set ?_ GE446.out | refine below_set ?_ GE459.out) | exact HB.out)))); have n4_ := Aside0.mk (Kd.R_lower (Kd.R_new' ho1 (Kd.R_lt (by (with_reducible repeat (first | apply Kd.R_alloc | apply Kd.R_drewN | apply Kd.R_drew)); exact (Kd.R_mono (Kd.R_far (p := ⟨gb459, 4, none⟩) (Kd.R_far (p := ⟨gb459, 3, none⟩) (Kd.R_far (p := ⟨gb459, 2, none⟩) (Kd.R_far (p := ⟨gb459, 1, none⟩) (Kd.R_far (p := ⟨gb459, 0, none⟩) (Kd.R_types HO455.out BK459.out (by decide)) (fun _ hk => hk.2) (.int .u8 t448)) (fun _ hk => hk.2) (.string t449)) (fun _ hk => hk.2) (.slice Ao224 t450.length co224)) (fun _ hk => hk.2) (.slice Ao225 t453.length co225)) (fun _ hk => hk.2) (.slice Ao226 t456.length co226)) (fun _ h_ => h_.1))))) (below_size (by repeat (first | (with_reducible first | exact HB.out | apply below_alloc | apply pw_below_drewN | apply below_drew1 | refine below_set ?_ GE445.out | refine below_set ?_ GE446.out | refine below_set ?_ GE459.out) | exact HB.out)))); have n5_ := Aside0.mk (Kd.R_lower (Kd.R_new' ho2 (Kd.R_lt (by (with_reducible repeat (first | apply Kd.R_alloc | apply Kd.R_drewN | apply Kd.R_drew)); exact (Kd.R_mono (Kd.R_far (p := ⟨gb459, 4, none⟩) (Kd.R_far (p := ⟨gb459, 3, none⟩) (Kd.R_far (p := ⟨gb459, 2, none⟩) (Kd.R_far (p := ⟨gb459, 1, none⟩) (Kd.R_far (p := ⟨gb459, 0, none⟩) (Kd.R_types HO458.out BK459.out (by decide)) (fun _ hk => hk.2) (.int .u8 t448)) (fun _ hk => hk.2) (.string t449)) (fun _ hk => hk.2) (.slice Ao224 t450.length co224)) (fun _ hk => hk.2) (.slice Ao225 t453.length co225)) (fun _ hk => hk.2) (.slice Ao226 t456.length co226)) (fun _ h_ => h_.1))))) (below_size (by repeat (first | (with_reducible first | exact HB.out | apply below_alloc | apply pw_below_drewN | apply below_drew1 | refine below_set ?_ GE445.out | refine below_set ?_ GE446.out | refine below_set ?_ GE459.out) | exact HB.out)))); have n6_ := Aside0.mk (blk_below (g := gb445) (o := .cells #[.int .u8 a0_0, .string a0_1, .slice A0_2 l0_2.length c0_2, .slice A0_3 l0_3.length c0_3, .slice A0_4 l0_4.length c0_4] 26 (0, 0)) (by (with_reducible repeat (first | refine blk_drewN ?_ _ | refine blk_drew ?_ | refine blk_alloc ?_ _)); refine blk_far ?_ NB445_459.out _; (with_reducible repeat (first | refine blk_drewN ?_ _ | refine blk_drew ?_ | refine blk_alloc ?_ _)); refine blk_far ?_ NB445_459.out _; (with_reducible repeat (first | refine blk_drewN ?_ _ | refine blk_drew ?_ | refine blk_alloc ?_ _)); refine blk_far ?_ NB445_459.out _; (with_reducible repeat (first | refine blk_drewN ?_ _ | refine blk_drew ?_ | refine blk_alloc ?_ _)); refine blk_far ?_ NB445_459.out _; (with_reducible repeat (first | refine blk_drewN ?_ _ | refine blk_drew ?_ | refine blk_alloc ?_ _)); refine blk_far ?_ NB445_459.out _; (with_reducible repeat (first | refine blk_drewN ?_ _ | refine blk_drew ?_ | refine blk_alloc ?_ _)); exact BK445.out) hb); have n7_ := Aside0.mk (blk_below (g := gb446) (o := .cells #[.int .u8 a1_0, .string a1_1, .slice A1_2 l1_2.length c1_2, .slice A1_3 l1_3.length c1_3, .slice A1_4 l1_4.length c1_4] 26 (0, 0)) (by (with_reducible repeat (first | refine blk_drewN ?_ _ | refine blk_drew ?_ | refine blk_alloc ?_ _)); refine blk_far ?_ NB446_459.out _; (with_reducible repeat (first | refine blk_drewN ?_ _ | refine blk_drew ?_ | refine blk_alloc ?_ _)); refine blk_far ?_ NB446_459.out _; (with_reducible repeat (first | refine blk_drewN ?_ _ | refine blk_drew ?_ | refine blk_alloc ?_ _)); refine blk_far ?_ NB446_459.out _; (with_reducible repeat (first | refine blk_drewN ?_ _ | refine blk_drew ?_ | refine blk_alloc ?_ _)); refine blk_far ?_ NB446_459.out _; (with_reducible repeat (first | refine blk_drewN ?_ _ | refine blk_drew ?_ | refine blk_alloc ?_ _)); refine blk_far ?_ NB446_459.out _; (with_reducible repeat (first | refine blk_drewN ?_ _ | refine blk_drew ?_ | refine blk_alloc ?_ _)); exact BK446.out) hb); have n8_ := Aside0.mk (blk_below (g := gb459) (o := .cells #[.int .u8 t448, .string t449, .slice Ao224 t450.length co224, .slice Ao225 t453.length co225, .slice Ao226 t456.length co226] 26 (0, 0)) (by (with_reducible repeat (first | refine blk_drewN ?_ _ | refine blk_drew ?_ | refine blk_alloc ?_ _)); refine blk_put (cs := #[.int .u8 t448, .string t449, .slice Ao224 t450.length co224, .slice Ao225 t453.length co225, .slice none 0 0]) ?_ 4 _ rfl; (with_reducible repeat (first | refine blk_drewN ?_ _ | refine blk_drew ?_ | refine blk_alloc ?_ _)); refine blk_put (cs := #[.int .u8 t448, .string t449, .slice Ao224 t450.length co224, .slice none 0 0, .slice none 0 0]) ?_ 3 _ rfl; (with_reducible repeat (first | refine blk_drewN ?_ _ | refine blk_drew ?_ | refine blk_alloc ?_ _)); refine blk_put (cs := #[.int .u8 t448, .string t449, .slice none 0 0, .slice none 0 0, .slice none 0 0]) ?_ 2 _ rfl; (with_reducible repeat (first | refine blk_drewN ?_ _ | refine blk_drew ?_ | refine blk_alloc ?_ _)); refine blk_put (cs := #[.int .u8 t448, .string (⟨#[]⟩ : ByteArray), .slice none 0 0, .slice none 0 0, .slice none 0 0]) ?_ 1 _ rfl; (with_reducible repeat (first | refine blk_drewN ?_ _ | refine blk_drew ?_ | refine blk_alloc ?_ _)); refine blk_put (cs := #[.int .u8 0, .string (⟨#[]⟩ : ByteArray), .slice none 0 0, .slice none 0 0, .slice none 0 0]) ?_ 0 _ rfl; (with_reducible repeat (first | refine blk_drewN ?_ _ | refine blk_drew ?_ | refine blk_alloc ?_ _)); exact BK459.out) hb); have n9_ := Aside0.mk (below_step (by repeat (first | (with_reducible first | exact HB.out | apply below_alloc | apply pw_below_drewN | apply below_drew1 | refine below_set ?_ GE445.out | refine below_set ?_ GE446.out | refine below_set ?_ GE459.out) | exact HB.out)) hb); clear HO452; clear HO455; clear HO458; clear BK445; clear BK446; clear BK459; clear HB; have HO452 := n0_; have HO455 := n1_; have HO458 := n2_; have HO464 := n3_; have HO467 := n4_; have HO470 := n5_; have BK445 := n6_; have BK446 := n7_; have BK459 := n8_; have HB := n9_; clear n0_ n1_ n2_ n3_ n4_ n5_ n6_ n7_ n8_ n9_; (try clear hb); (try clear hb2); (try clear hk); (try clear hi); (try clear ho0); (try clear ho1); (try clear ho2)) | ((with_reducible refine gate_dst (N := 7) rfl ?_); refine box_event ?hg (N := 7) ?hd (cs := #[.int .u8 0, .string (⟨#[]⟩ : ByteArray), .slice none 0 0, .slice none 0 0, .slice none 0 0]) (t := 26) ?hr ?_; (case hd => rfl); (case hg => rfl); (case hr => first | (go_simp; done) | (go_simp; rfl)); intro gb471 hg w229 hbox hb; have n0_ := Aside0.mk (Kd.R_below (by (with_reducible repeat (first | apply Kd.R_alloc | apply Kd.R_drewN | apply Kd.R_drew)); exact HO452.out) hb); have n1_ := Aside0.mk (Kd.R_below (by (with_reducible repeat (first | apply Kd.R_alloc | apply Kd.R_drewN | apply Kd.R_drew)); exact HO455.out) hb); have n2_ := Aside0.mk (Kd.R_below (by (with_reducible repeat (first | apply Kd.R_alloc | apply Kd.R_drewN | apply Kd.R_drew)); exact HO458.out) hb); have n3_ := Aside0.mk (Kd.R_below (by (with_reducible repeat (first | apply Kd.R_alloc | apply Kd.R_drewN | apply Kd.R_drew)); exact HO464.out) hb); have n4_ := Aside0.mk (Kd.R_below (by (with_reducible repeat (first | apply Kd.R_alloc | apply Kd.R_drewN | apply Kd.R_drew)); exact HO467.out) hb); have n5_ := Aside0.mk (Kd.R_below (by (with_reducible repeat (first | apply Kd.R_alloc | apply Kd.R_drewN | apply Kd.R_drew)); exact HO470.out) hb); have n6_ := Aside0.mk (blk_below (g := gb445) (o := .cells #[.int .u8 a0_0, .string a0_1, .slice A0_2 l0_2.length c0_2, .slice A0_3 l0_3.length c0_3, .slice A0_4 l0_4.length c0_4] 26 (0, 0)) (by (with_reducible repeat (first | refine blk_drewN ?_ _ | refine blk_drew ?_ | refine blk_alloc ?_ _)); exact BK445.out) hb); have n7_ := Aside0.mk (blk_below (g := gb446) (o := .cells #[.int .u8 a1_0, .string a1_1, .slice A1_2 l1_2.length c1_2, .slice A1_3 l1_3.length c1_3, .slice A1_4 l1_4.length c1_4] 26 (0, 0)) (by (with_reducible repeat (first | refine blk_drewN ?_ _ | refine blk_drew ?_ | refine blk_alloc ?_ _)); exact BK446.out) hb); have n8_ := Aside0.mk (blk_below (g := gb459) (o := .cells #[.int .u8 t448, .string t449, .slice Ao224 t450.length co224, .slice Ao225 t453.length co225, .slice Ao226 t456.length co226] 26 (0, 0)) (by (with_reducible repeat (first | refine blk_drewN ?_ _ | refine blk_drew ?_ | refine blk_alloc ?_ _)); exact BK459.out) hb); have n9_ := Aside0.mk (below_step (by repeat (first | (with_reducible first | exact HB.out | apply below_alloc | apply pw_below_drewN | apply below_drew1 | refine below_set ?_ GE445.out | refine below_set ?_ GE446.out | refine below_set ?_ GE459.out) | exact HB.out)) hb); have n10_ := Aside0.mk (hbox); have n11_ := Aside0.mk ((by rw [hg]; exact (below_size (by repeat (first | (with_reducible first | exact HB.out | apply below_alloc | apply pw_below_drewN | apply below_drew1 | refine below_set ?_ GE445.out | refine below_set ?_ GE446.out | refine below_set ?_ GE459.out) | exact HB.out))) : w.heap.size ≤ gb471)); have n12_ := Aside0.mk ((by rw [hg]; exact (below_size (by repeat (first | (with_reducible first | exact HB.out | apply below_alloc | apply pw_below_drewN | apply below_drew1 | refine below_set ?_ GE445.out | refine below_set ?_ GE446.out | refine below_set ?_ GE459.out) | exact HB.out))) : w.heap.size ≤ gb471)); have n13_ := Aside0.mk ((by rw [hg]; exact Nat.ne_of_lt (blk_lt (g := gb445) (o := .cells #[.int .u8 a0_0, .string a0_1, .slice A0_2 l0_2.length c0_2, .slice A0_3 l0_3.length c0_3, .slice A0_4 l0_4.length c0_4] 26 (0, 0)) (by (with_reducible repeat (first | refine blk_drewN ?_ _ | refine blk_drew ?_ | refine blk_alloc ?_ _)); exact BK445.out)) : gb445 ≠ gb471)); have n14_ := Aside0.mk ((by rw [hg]; exact Nat.ne_of_gt (blk_lt (g := gb445) (o := .cells #[.int .u8 a0_0, .string a0_1, .slice A0_2 l0_2.length c0_2, .slice A0_3 l0_3.length c0_3, .slice A0_4 l0_4.length c0_4] 26 (0, 0)) (by (with_reducible repeat (first | refine blk_drewN ?_ _ | refine blk_drew ?_ | refine blk_alloc ?_ _)); exact BK445.out)) : gb471 ≠ gb445)); have n15_ := Aside0.mk ((by rw [hg]; exact Nat.ne_of_lt (blk_lt (g := gb446) (o := .cells #[.int .u8 a1_0, .string a1_1, .slice A1_2 l1_2.length c1_2, .slice A1_3 l1_3.length c1_3, .slice A1_4 l1_4.length c1_4] 26 (0, 0)) (by (with_reducible repeat (first | refine blk_drewN ?_ _ | refine blk_drew ?_ | refine blk_alloc ?_ _)); exact BK446.out)) : gb446 ≠ gb471)); have n16_ := Aside0.mk ((by rw [hg]; exact Nat.ne_of_gt (blk_lt (g := gb446) (o := .cells #[.int .u8 a1_0, .string a1_1, .slice A1_2 l1_2.length c1_2, .slice A1_3 l1_3.length c1_3, .slice A1_4 l1_4.length c1_4] 26 (0, 0)) (by (with_reducible repeat (first | refine blk_drewN ?_ _ | refine blk_drew ?_ | refine blk_alloc ?_ _)); exact BK446.out)) : gb471 ≠ gb446)); have n17_ := Aside0.mk ((by rw [hg]; exact Nat.ne_of_lt (blk_lt (g := gb459) (o := .cells #[.int .u8 t448, .string t449, .slice Ao224 t450.length co224, .slice Ao225 t453.length co225, .slice Ao226 t456.length co226] 26 (0, 0)) (by (with_reducible repeat (first | refine blk_drewN ?_ _ | refine blk_drew ?_ | refine blk_alloc ?_ _)); exact BK459.out)) : gb459 ≠ gb471)); have n18_ := Aside0.mk ((by rw [hg]; exact Nat.ne_of_gt (blk_lt (g := gb459) (o := .cells #[.int .u8 t448, .string t449, .slice Ao224 t450.length co224, .slice Ao225 t453.length co225, .slice Ao226 t456.length co226] 26 (0, 0)) (by (with_reducible repeat (first | refine blk_drewN ?_ _ | refine blk_drew ?_ | refine blk_alloc ?_ _)); exact BK459.out)) : gb471 ≠ gb459)); clear HO452; clear HO455; clear HO458; clear HO464; clear HO467; clear HO470; clear BK445; clear BK446; clear BK459; clear HB; have HO452 := n0_; have HO455 := n1_; have HO458 := n2_; have HO464 := n3_; have HO467 := n4_; have HO470 := n5_; have BK445 := n6_; have BK446 := n7_; have BK459 := n8_; have HB := n9_; have BK471 := n10_; have GW471 := n11_; have GE471 := n12_; have NB445_471 := n13_; have NB471_445 := n14_; have NB446_471 := n15_; have NB471_446 := n16_; have NB459_471 := n17_; have NB471_459 := n18_; clear n0_ n1_ n2_ n3_ n4_ n5_ n6_ n7_ n8_ n9_ n10_ n11_ n12_ n13_ n14_ n15_ n16_ n17_ n18_; clear hb hbox hg; have hnb230 := NB471_445.out; have hnc230 := NB445_471.out; have hnb231 := NB471_446.out; have hnc231 := NB446_471.out; have hnb232 := NB471_459.out; have hnc232 := NB459_471.out; have hcz233_0 : w229.cell? ⟨gb471, 0, none⟩ = some (.int .u8 0) := (blk_cell BK471.out 0).trans rfl; have hcz233_1 : w229.cell? ⟨gb471, 1, none⟩ = some (.string (⟨#[]⟩ : ByteArray)) := (blk_cell BK471.out 1).trans rfl; have hcz233_2 : w229.cell? ⟨gb471, 2, none⟩ = some (.slice none 0 0) := (blk_cell BK471.out 2).trans rfl; have hcz233_3 : w229.cell? ⟨gb471, 3, none⟩ = some (.slice none 0 0) := (blk_cell BK471.out 3).trans rfl; have hcz233_4 : w229.cell? ⟨gb471, 4, none⟩ = some (.slice none 0 0) := (blk_cell BK471.out 4).trans rfl; have hfz233_0 := blk_frozen BK471.out 0; have hfz233_1 := blk_frozen BK471.out 1; have hfz233_2 := blk_frozen BK471.out 2; have hfz233_3 := blk_frozen BK471.out 3; have hfz233_4 := blk_frozen BK471.out 4; obtain ⟨Ao234, co234, eo234⟩ := Kd.R_slice HO464.out; subst eo234; obtain ⟨Ao235, co235, eo235⟩ := Kd.R_slice HO467.out; subst eo235; obtain ⟨Ao236, co236, eo236⟩ := Kd.R_slice HO470.out; subst eo236; have hcz237_0 : w229.cell? ⟨gb459, 0, none⟩ = some (.int .u8 t448) := (blk_cell BK459.out 0).trans rfl; have hcz237_1 : w229.cell? ⟨gb459, 1, none⟩ = some (.string t449) := (blk_cell BK459.out 1).trans rfl; have hcz237_2 : w229.cell? ⟨gb459, 2, none⟩ = some (.slice Ao224 t450.length co224) := (blk_cell BK459.out 2).trans rfl; have hcz237_3 : w229.cell? ⟨gb459, 3, none⟩ = some (.slice Ao225 t453.length co225) := (blk_cell BK459.out 3).trans rfl; have hcz237_4 : w229.cell? ⟨gb459, 4, none⟩ = some (.slice Ao226 t456.length co226) := (blk_cell BK459.out 4).trans rfl; have hfz237_0 := blk_frozen BK459.out 0; have hfz237_1 := blk_frozen BK459.out 1; have hfz237_2 := blk_frozen BK459.out 2; have hfz237_3 := blk_frozen BK459.out 3; have hfz237_4 := blk_frozen BK459.out 4) | ((with_reducible refine gate_dst (N := 8) rfl ?_); refine box_event ?hg (N := 8) ?hd (cs := #[.int .u8 0, .string (⟨#[]⟩ : ByteArray), .slice none 0 0, .slice none 0 0, .slice none 0 0]) (t := 26) ?hr ?_; (case hd => rfl); (case hg => rfl); (case hr => first | (go_simp; done) | (go_simp; rfl)); intro gb472 hg w238 hbox hb; have n0_ := Aside0.mk (Kd.R_below (by (with_reducible repeat (first | apply Kd.R_alloc | apply Kd.R_drewN | apply Kd.R_drew)); exact (Kd.R_mono (Kd.R_far (p := ⟨gb471, 4, none⟩) (Kd.R_far (p := ⟨gb471, 3, none⟩) (Kd.R_far (p := ⟨gb471, 2, none⟩) (Kd.R_far (p := ⟨gb471, 1, none⟩) (Kd.R_far (p := ⟨gb471, 0, none⟩) (Kd.R_types HO452.out BK471.out (by decide)) (fun _ hk => hk.2) (.int .u8 t460)) (fun _ hk => hk.2) (.string t461)) (fun _ hk => hk.2) (.slice Ao234 t462.length co234)) (fun _ hk => hk.2) (.slice Ao235 t465.length co235)) (fun _ hk => hk.2) (.slice Ao236 t468.length co236)) (fun _ h_ => h_.1))) hb); have n1_ := Aside0.mk (Kd.R_below (by (with_reducible repeat (first | apply Kd.R_alloc | apply Kd.R_drewN | apply Kd.R_drew)); exact (Kd.R_mono (Kd.R_far (p := ⟨gb471, 4, none⟩) (Kd.R_far (p := ⟨gb471, 3, none⟩) (Kd.R_far (p := ⟨gb471, 2, none⟩) (Kd.R_far (p := ⟨gb471, 1, none⟩) (Kd.R_far (p := ⟨gb471, 0, none⟩) (Kd.R_types HO455.out BK471.out (by decide)) (fun _ hk => hk.2) (.int .u8 t460)) (fun _ hk => hk.2) (.string t461)) (fun _ hk => hk.2) (.slice Ao234 t462.length co234)) (fun _ hk => hk.2) (.slice Ao235 t465.length co235)) (fun _ hk => hk.2) (.slice Ao236 t468.length co236)) (fun _ h_ => h_.1))) hb); have n2_ := Aside0.mk (Kd.R_below (by (with_reducible repeat (first | apply Kd.R_alloc | apply Kd.R_drewN | apply Kd.R_drew)); exact (Kd.R_mono (Kd.R_far (p := ⟨gb471, 4, none⟩) (Kd.R_far (p := ⟨gb471, 3, none⟩) (Kd.R_far (p := ⟨gb471, 2, none⟩) (Kd.R_far (p := ⟨gb471, 1, none⟩) (Kd.R_far (p := ⟨gb471, 0, none⟩) (Kd.R_types HO458.out BK471.out (by decide)) (fun _ hk => hk.2) (.int .u8 t460)) (fun _ hk => hk.2) (.string t461)) (fun _ hk => hk.2) (.slice Ao234 t462.length co234)) (fun _ hk => hk.2) (.slice Ao235 t465.length co235)) (fun _ hk => hk.2) (.slice Ao236 t468.length co236)) (fun _ h_ => h_.1))) hb); have n3_ := Aside0.mk (Kd.R_below (by (with_reducible repeat (first | apply Kd.R_alloc | apply Kd.R_drewN | apply Kd.R_drew)); exact (Kd.R_mono (Kd.R_far (p := ⟨gb471, 4, none⟩) (Kd.R_far (p := ⟨gb471, 3, none⟩) (Kd.R_far (p := ⟨gb471, 2, none⟩) (Kd.R_far (p := ⟨gb471, 1, none⟩) (Kd.R_far (p := ⟨gb471, 0, none⟩) (Kd.R_types HO464.out BK471.out (by decide)) (fun _ hk => hk.2) (.int .u8 t460)) (fun _ hk => hk.2) (.string t461)) (fun _ hk => hk.2) (.slice Ao234 t462.length co234)) (fun _ hk => hk.2) (.slice Ao235 t465.length co235)) (fun _ hk => hk.2) (.slice Ao236 t468.length co236)) (fun _ h_ => h_.1))) hb); have n4_ := Aside0.mk (Kd.R_below (by (with_reducible repeat (first | apply Kd.R_alloc | apply Kd.R_drewN | apply Kd.R_drew)); exact (Kd.R_mono (Kd.R_far (p := ⟨gb471, 4, none⟩) (Kd.R_far (p := ⟨gb471, 3, none⟩) (Kd.R_far (p := ⟨gb471, 2, none⟩) (Kd.R_far (p := ⟨gb471, 1, none⟩) (Kd.R_far (p := ⟨gb471, 0, none⟩) (Kd.R_types HO467.out BK471.out (by decide)) (fun _ hk => hk.2) (.int .u8 t460)) (fun _ hk => hk.2) (.string t461)) (fun _ hk => hk.2) (.slice Ao234 t462.length co234)) (fun _ hk => hk.2) (.slice Ao235 t465.length co235)) (fun _ hk => hk.2) (.slice Ao236 t468.length co236)) (fun _ h_ => h_.1))) hb); have n5_ := Aside0.mk (Kd.R_below (by (with_reducible repeat (first | apply Kd.R_alloc | apply Kd.R_drewN | apply Kd.R_drew)); exact (Kd.R_mono (Kd.R_far (p := ⟨gb471, 4, none⟩) (Kd.R_far (p := ⟨gb471, 3, none⟩) (Kd.R_far (p := ⟨gb471, 2, none⟩) (Kd.R_far (p := ⟨gb471, 1, none⟩) (Kd.R_far (p := ⟨gb471, 0, none⟩) (Kd.R_types HO470.out BK471.out (by decide)) (fun _ hk => hk.2) (.int .u8 t460)) (fun _ hk => hk.2) (.string t461)) (fun _ hk => hk.2) (.slice Ao234 t462.length co234)) (fun _ hk => hk.2) (.slice Ao235 t465.length co235)) (fun _ hk => hk.2) (.slice Ao236 t468.length co236)) (fun _ h_ => h_.1))) hb); have n6_ := Aside0.mk (blk_below (g := gb445) (o := .cells #[.int .u8 a0_0, .string a0_1, .slice A0_2 l0_2.length c0_2, .slice A0_3 l0_3.length c0_3, .slice A0_4 l0_4.length c0_4] 26 (0, 0)) (by (with_reducible repeat (first | refine blk_drewN ?_ _ | refine blk_drew ?_ | refine blk_alloc ?_ _)); refine blk_far ?_ NB445_471.out _; (with_reducible repeat (first | refine blk_drewN ?_ _ | refine blk_drew ?_ | refine blk_alloc ?_ _)); refine blk_far ?_ NB445_471.out _; (with_reducible repeat (first | refine blk_drewN ?_ _ | refine blk_drew ?_ | refine blk_alloc ?_ _)); refine blk_far ?_ NB445_471.out _; (with_reducible repeat (first | refine blk_drewN ?_ _ | refine blk_drew ?_ | refine blk_alloc ?_ _)); refine blk_far ?_ NB445_471.out _; (with_reducible repeat (first | refine blk_drewN ?_ _ | refine blk_drew ?_ | refine blk_alloc ?_ _)); refine blk_far ?_ NB445_471.out _; (with_reducible repeat (first | refine blk_drewN ?_ _ | refine blk_drew ?_ | refine blk_alloc ?_ _)); exact BK445.out) hb); have n7_ := Aside0.mk (blk_below (g := gb446) (o := .cells #[.int .u8 a1_0, .string a1_1, .slice A1_2 l1_2.length c1_2, .slice A1_3 l1_3.length c1_3, .slice A1_4 l1_4.length c1_4] 26 (0, 0)) (by (with_reducible repeat (first | refine blk_drewN ?_ _ | refine blk_drew ?_ | refine blk_alloc ?_ _)); refine blk_far ?_ NB446_471.out _; (with_reducible repeat (first | refine blk_drewN ?_ _ | refine blk_drew ?_ | refine blk_alloc ?_ _)); refine blk_far ?_ NB446_471.out _; (with_reducible repeat (first | refine blk_drewN ?_ _ | refine blk_drew ?_ | refine blk_alloc ?_ _)); refine blk_far ?_ NB446_471.out _; (with_reducible repeat (first | refine blk_drewN ?_ _ | refine blk_drew ?_ | refine blk_alloc ?_ _)); refine blk_far ?_ NB446_471.out _; (with_reducible repeat (first | refine blk_drewN ?_ _ | refine blk_drew ?_ | refine blk_alloc ?_ _)); refine blk_far ?_ NB446_471.out _; (with_reducible repeat (first | refine blk_drewN ?_ _ | refine blk_drew ?_ | refine blk_alloc ?_ _)); exact BK446.out) hb); have n8_ := Aside0.mk (blk_below (g := gb459) (o := .cells #[.int .u8 t448, .string t449, .slice Ao224 t450.length co224, .slice Ao225 t453.length co225, .slice Ao226 t456.length co226] 26 (0, 0)) (by (with_reducible repeat (first | refine blk_drewN ?_ _ | refine blk_drew ?_ | refine blk_alloc ?_ _)); refine blk_far ?_ NB459_471.out _; (with_reducible repeat (first | refine blk_drewN ?_ _ | refine blk_drew ?_ | refine blk_alloc ?_ _)); refine blk_far ?_ NB459_471.out _; (with_reducible repeat (first | refine blk_drewN ?_ _ | refine blk_drew ?_ | refine blk_alloc ?_ _)); refine blk_far ?_ NB459_471.out _; (with_reducible repeat (first | refine blk_drewN ?_ _ | refine blk_drew ?_ | refine blk_alloc ?_ _)); refine blk_far ?_ NB459_471.out _; (with_reducible repeat (first | refine blk_drewN ?_ _ | refine blk_drew ?_ | refine blk_alloc ?_ _)); refine blk_far ?_ NB459_471.out _; (with_reducible repeat (first | refine blk_drewN ?_ _ | refine blk_drew ?_ | refine blk_alloc ?_ _)); exact BK459.out) hb); have n9_ := Aside0.mk (blk_below (g := gb471) (o := .cells #[.int .u8 t460, .string t461, .slice Ao234 t462.length co234, .slice Ao235 t465.length co235, .slice Ao236 t468.length co236] 26 (0, 0)) (by (with_reducible repeat (first | refine blk_drewN ?_ _ | refine blk_drew ?_ | refine blk_alloc ?_ _)); refine blk_put (cs := #[.int .u8 t460, .string t461, .slice Ao234 t462.length co234, .slice Ao235 t465.length co235, .slice none 0 0]) ?_ 4 _ rfl; (with_reducible repeat (first | refine blk_drewN ?_ _ | refine blk_drew ?_ | refine blk_alloc ?_ _)); refine blk_put (cs := #[.int .u8 t460, .string t461, .slice Ao234 t462.length co234, .slice none 0 0, .slice none 0 0]) ?_ 3 _ rfl; (with_reducible repeat (first | refine blk_drewN ?_ _ | refine blk_drew ?_ | refine blk_alloc ?_ _)); refine blk_put (cs := #[.int .u8 t460, .string t461, .slice none 0 0, .slice none 0 0, .slice none 0 0]) ?_ 2 _ rfl; (with_reducible repeat (first | refine blk_drewN ?_ _ | refine blk_drew ?_ | refine blk_alloc ?_ _)); refine blk_put (cs := #[.int .u8 t460, .string (⟨#[]⟩ : ByteArray), .slice none 0 0, .slice none 0 0, .slice none 0 0]) ?_ 1 _ rfl; (with_reducible repeat (first | refine blk_drewN ?_ _ | refine blk_drew ?_ | refine blk_alloc ?_ _)); refine blk_put (cs := #[.int .u8 0, .string (⟨#[]⟩ : ByteArray), .slice none 0 0, .slice none 0 0, .slice none 0 0]) ?_ 0 _ rfl; (with_reducible repeat (first | refine blk_drewN ?_ _ | refine blk_drew ?_ | refine blk_alloc ?_ _)); exact BK471.out) hb); have n10_ := Aside0.mk (below_step (by repeat (first | (with_reducible first | exact HB.out | apply below_alloc | apply pw_below_drewN | apply below_drew1 | refine below_set ?_ GE445.out | refine below_set ?_ GE446.out | refine below_set ?_ GE459.out | refine below_set ?_ GE471.out) | exact HB.out)) hb); have n11_ := Aside0.mk (hbox); have n12_ := Aside0.mk ((by rw [hg]; exact (below_size (by repeat (first | (with_reducible first | exact HB.out | apply below_alloc | apply pw_below_drewN | apply below_drew1 | refine below_set ?_ GE445.out | refine below_set ?_ GE446.out | refine below_set ?_ GE459.out | refine below_set ?_ GE471.out) | exact HB.out))) : w.heap.size ≤ gb472)); have n13_ := Aside0.mk ((by rw [hg]; exact (below_size (by repeat (first | (with_reducible first | exact HB.out | apply below_alloc | apply pw_below_drewN | apply below_drew1 | refine below_set ?_ GE445.out | refine below_set ?_ GE446.out | refine below_set ?_ GE459.out | refine below_set ?_ GE471.out) | exact HB.out))) : w.heap.size ≤ gb472)); have n14_ := Aside0.mk ((by rw [hg]; exact Nat.ne_of_lt (blk_lt (g := gb445) (o := .cells #[.int .u8 a0_0, .string a0_1, .slice A0_2 l0_2.length c0_2, .slice A0_3 l0_3.length c0_3, .slice A0_4 l0_4.length c0_4] 26 (0, 0)) (by (with_reducible repeat (first | refine blk_drewN ?_ _ | refine blk_drew ?_ | refine blk_alloc ?_ _)); refine blk_far ?_ NB445_471.out _; (with_reducible repeat (first | refine blk_drewN ?_ _ | refine blk_drew ?_ | refine blk_alloc ?_ _)); refine blk_far ?_ NB445_471.out _; (with_reducible repeat (first | refine blk_drewN ?_ _ | refine blk_drew ?_ | refine blk_alloc ?_ _)); refine blk_far ?_ NB445_471.out _; (with_reducible repeat (first | refine blk_drewN ?_ _ | refine blk_drew ?_ | refine blk_alloc ?_ _)); refine blk_far ?_ NB445_471.out _; (with_reducible repeat (first | refine blk_drewN ?_ _ | refine blk_drew ?_ | refine blk_alloc ?_ _)); refine blk_far ?_ NB445_471.out _; (with_reducible repeat (first | refine blk_drewN ?_ _ | refine blk_drew ?_ | refine blk_alloc ?_ _)); exact BK445.out)) : gb445 ≠ gb472)); have n15_ := Aside0.mk ((by rw [hg]; exact Nat.ne_of_gt (blk_lt (g := gb445) (o := .cells #[.int .u8 a0_0, .string a0_1, .slice A0_2 l0_2.length c0_2, .slice A0_3 l0_3.length c0_3, .slice A0_4 l0_4.length c0_4] 26 (0, 0)) (by (with_reducible repeat (first | refine blk_drewN ?_ _ | refine blk_drew ?_ | refine blk_alloc ?_ _)); refine blk_far ?_ NB445_471.out _; (with_reducible repeat (first | refine blk_drewN ?_ _ | refine blk_drew ?_ | refine blk_alloc ?_ _)); refine blk_far ?_ NB445_471.out _; (with_reducible repeat (first | refine blk_drewN ?_ _ | refine blk_drew ?_ | refine blk_alloc ?_ _)); refine blk_far ?_ NB445_471.out _; (with_reducible repeat (first | refine blk_drewN ?_ _ | refine blk_drew ?_ | refine blk_alloc ?_ _)); refine blk_far ?_ NB445_471.out _; (with_reducible repeat (first | refine blk_drewN ?_ _ | refine blk_drew ?_ | refine blk_alloc ?_ _)); refine blk_far ?_ NB445_471.out _; (with_reducible repeat (first | refine blk_drewN ?_ _ | refine blk_drew ?_ | refine blk_alloc ?_ _)); exact BK445.out)) : gb472 ≠ gb445)); have n16_ := Aside0.mk ((by rw [hg]; exact Nat.ne_of_lt (blk_lt (g := gb446) (o := .cells #[.int .u8 a1_0, .string a1_1, .slice A1_2 l1_2.length c1_2, .slice A1_3 l1_3.length c1_3, .slice A1_4 l1_4.length c1_4] 26 (0, 0)) (by (with_reducible repeat (first | refine blk_drewN ?_ _ | refine blk_drew ?_ | refine blk_alloc ?_ _)); refine blk_far ?_ NB446_471.out _; (with_reducible repeat (first | refine blk_drewN ?_ _ | refine blk_drew ?_ | refine blk_alloc ?_ _)); refine blk_far ?_ NB446_471.out _; (with_reducible repeat (first | refine blk_drewN ?_ _ | refine blk_drew ?_ | refine blk_alloc ?_ _)); refine blk_far ?_ NB446_471.out _; (with_reducible repeat (first | refine blk_drewN ?_ _ | refine blk_drew ?_ | refine blk_alloc ?_ _)); refine blk_far ?_ NB446_471.out _; (with_reducible repeat (first | refine blk_drewN ?_ _ | refine blk_drew ?_ | refine blk_alloc ?_ _)); refine blk_far ?_ NB446_471.out _; (with_reducible repeat (first | refine blk_drewN ?_ _ | refine blk_drew ?_ | refine blk_alloc ?_ _)); exact BK446.out)) : gb446 ≠ gb472)); have n17_ := Aside0.mk ((by rw [hg]; exact Nat.ne_of_gt (blk_lt (g := gb446) (o := .cells #[.int .u8 a1_0, .string a1_1, .slice A1_2 l1_2.length c1_2, .slice A1_3 l1_3.length c1_3, .slice A1_4 l1_4.length c1_4] 26 (0, 0)) (by (with_reducible repeat (first | refine blk_drewN ?_ _ | refine blk_drew ?_ | refine blk_alloc ?_ _)); refine blk_far ?_ NB446_471.out _; (with_reducible repeat (first | refine blk_drewN ?_ _ | refine blk_drew ?_ | refine blk_alloc ?_ _)); refine blk_far ?_ NB446_471.out _; (with_reducible repeat (first | refine blk_drewN ?_ _ | refine blk_drew ?_ | refine blk_alloc ?_ _)); refine blk_far ?_ NB446_471.out _; (with_reducible repeat (first | refine blk_drewN ?_ _ | refine blk_drew ?_ | refine blk_alloc ?_ _)); refine blk_far ?_ NB446_471.out _; (with_reducible repeat (first | refine blk_drewN ?_ _ | refine blk_drew ?_ | refine blk_alloc ?_ _)); refine blk_far ?_ NB446_471.out _; (with_reducible repeat (first | refine blk_drewN ?_ _ | refine blk_drew ?_ | refine blk_alloc ?_ _)); exact BK446.out)) : gb472 ≠ gb446)); have n18_ := Aside0.mk ((by rw [hg]; exact Nat.ne_of_lt (blk_lt (g := gb459) (o := .cells #[.int .u8 t448, .string t449, .slice Ao224 t450.length co224, .slice Ao225 t453.length co225, .slice Ao226 t456.length co226] 26 (0, 0)) (by (with_reducible repeat (first | refine blk_drewN ?_ _ | refine blk_drew ?_ | refine blk_alloc ?_ _)); refine blk_far ?_ NB459_471.out _; (with_reducible repeat (first | refine blk_drewN ?_ _ | refine blk_drew ?_ | refine blk_alloc ?_ _)); refine blk_far ?_ NB459_471.out _; (with_reducible repeat (first | refine blk_drewN ?_ _ | refine blk_drew ?_ | refine blk_alloc ?_ _)); refine blk_far ?_ NB459_471.out _; (with_reducible repeat (first | refine blk_drewN ?_ _ | refine blk_drew ?_ | refine blk_alloc ?_ _)); refine blk_far ?_ NB459_471.out _; (with_reducible repeat (first | refine blk_drewN ?_ _ | refine blk_drew ?_ | refine blk_alloc ?_ _)); refine blk_far ?_ NB459_471.out _; (with_reducible repeat (first | refine blk_drewN ?_ _ | refine blk_drew ?_ | refine blk_alloc ?_ _)); exact BK459.out)) : gb459 ≠ gb472)); have n19_ := Aside0.mk ((by rw [hg]; exact Nat.ne_of_gt (blk_lt (g := gb459) (o := .cells #[.int .u8 t448, .string t449, .slice Ao224 t450.length co224, .slice Ao225 t453.length co225, .slice Ao226 t456.length co226] 26 (0, 0)) (by (with_reducible repeat (first | refine blk_drewN ?_ _ | refine blk_drew ?_ | refine blk_alloc ?_ _)); refine blk_far ?_ NB459_471.out _; (with_reducible repeat (first | refine blk_drewN ?_ _ | refine blk_drew ?_ | refine blk_alloc ?_ _)); refine blk_far ?_ NB459_471.out _; (with_reducible repeat (first | refine blk_drewN ?_ _ | refine blk_drew ?_ | refine blk_alloc ?_ _)); refine blk_far ?_ NB459_471.out _; (with_reducible repeat (first | refine blk_drewN ?_ _ | refine blk_drew ?_ | refine blk_alloc ?_ _)); refine blk_far ?_ NB459_471.out _; (with_reducible repeat (first | refine blk_drewN ?_ _ | refine blk_drew ?_ | refine blk_alloc ?_ _)); refine blk_far ?_ NB459_471.out _; (with_reducible repeat (first | refine blk_drewN ?_ _ | refine blk_drew ?_ | refine blk_alloc ?_ _)); exact BK459.out)) : gb472 ≠ gb459)); have n20_ := Aside0.mk ((by rw [hg]; exact Nat.ne_of_lt (blk_lt (g := gb471) (o := .cells #[.int .u8 t460, .string t461, .slice Ao234 t462.length co234, .slice Ao235 t465.length co235, .slice Ao236 t468.length co236] 26 (0, 0)) (by (with_reducible repeat (first | refine blk_drewN ?_ _ | refine blk_drew ?_ | refine blk_alloc ?_ _)); refine blk_put (cs := #[.int .u8 t460, .string t461, .slice Ao234 t462.length co234, .slice Ao235 t465.length co235, .slice none 0 0]) ?_ 4 _ rfl; (with_reducible repeat (first | refine blk_drewN ?_ _ | refine blk_drew ?_ | refine blk_alloc ?_ _)); refine blk_put (cs := #[.int .u8 t460, .string t461, .slice Ao234 t462.length co234, .slice none 0 0, .slice none 0 0]) ?_ 3 _ rfl; (with_reducible repeat (first | refine blk_drewN ?_ _ | refine blk_drew ?_ | refine blk_alloc ?_ _)); refine blk_put (cs := #[.int .u8 t460, .string t461, .slice none 0 0, .slice none 0 0, .slice none 0 0]) ?_ 2 _ rfl; (with_reducible repeat (first | refine blk_drewN ?_ _ | refine blk_drew ?_ | refine blk_alloc ?_ _)); refine blk_put (cs := #[.int .u8 t460, .string (⟨#[]⟩ : ByteArray), .slice none 0 0, .slice none 0 0, .slice none 0 0]) ?_ 1 _ rfl; (with_reducible repeat (first | refine blk_drewN ?_ _ | refine blk_drew ?_ | refine blk_alloc ?_ _)); refine blk_put (cs := #[.int .u8 0, .string (⟨#[]⟩ : ByteArray), .slice none 0 0, .slice none 0 0, .slice none 0 0]) ?_ 0 _ rfl; (with_reducible repeat (first | refine blk_drewN ?_ _ | refine blk_drew ?_ | refine blk_alloc ?_ _)); exact BK471.out)) : gb471 ≠ gb472)); have n21_ := Aside0.mk ((by rw [hg]; exact Nat.ne_of_gt (blk_lt (g := gb471) (o := .cells #[.int .u8 t460, .string t461, .slice Ao234 t462.length co234, .slice Ao235 t465.length co235, .slice Ao236 t468.length co236] 26 (0, 0)) (by (with_reducible repeat (first | refine blk_drewN ?_ _ | refine blk_drew ?_ | refine blk_alloc ?_ _)); refine blk_put (cs := #[.int .u8 t460, .string t461, .slice Ao234 t462.length co234, .slice Ao235 t465.length co235, .slice none 0 0]) ?_ 4 _ rfl; (with_reducible repeat (first | refine blk_drewN ?_ _ | refine blk_drew ?_ | refine blk_alloc ?_ _)); refine blk_put (cs := #[.int .u8 t460, .string t461, .slice Ao234 t462.length co234, .slice none 0 0, .slice none 0 0]) ?_ 3 _ rfl; (with_reducible repeat (first | refine blk_drewN ?_ _ | refine blk_drew ?_ | refine blk_alloc ?_ _)); refine blk_put (cs := #[.int .u8 t460, .string t461, .slice none 0 0, .slice none 0 0, .slice none 0 0]) ?_ 2 _ rfl; (with_reducible repeat (first | refine blk_drewN ?_ _ | refine blk_drew ?_ | refine blk_alloc ?_ _)); refine blk_put (cs := #[.int .u8 t460, .string (⟨#[]⟩ : ByteArray), .slice none 0 0, .slice none 0 0, .slice none 0 0]) ?_ 1 _ rfl; (with_reducible repeat (first | refine blk_drewN ?_ _ | refine blk_drew ?_ | refine blk_alloc ?_ _)); refine blk_put (cs := #[.int .u8 0, .string (⟨#[]⟩ : ByteArray), .slice none 0 0, .slice none 0 0, .slice none 0 0]) ?_ 0 _ rfl; (with_reducible repeat (first | refine blk_drewN ?_ _ | refine blk_drew ?_ | refine blk_alloc ?_ _)); exact BK471.out)) : gb472 ≠ gb471)); clear HO452; clear HO455; clear HO458; clear HO464; clear HO467; clear HO470; clear BK445; clear BK446; clear BK459; clear BK471; clear HB; have HO452 := n0_; have HO455 := n1_; have HO458 := n2_; have HO464 := n3_; have HO467 := n4_; have HO470 := n5_; have BK445 := n6_; have BK446 := n7_; have BK459 := n8_; have BK471 := n9_; have HB := n10_; have BK472 := n11_; have GW472 := n12_; have GE472 := n13_; have NB445_472 := n14_; have NB472_445 := n15_; have NB446_472 := n16_; have NB472_446 := n17_; have NB459_472 := n18_; have NB472_459 := n19_; have NB471_472 := n20_; have NB472_471 := n21_; clear n0_ n1_ n2_ n3_ n4_ n5_ n6_ n7_ n8_ n9_ n10_ n11_ n12_ n13_ n14_ n15_ n16_ n17_ n18_ n19_ n20_ n21_; clear hb hbox hg; have hnb239 := NB472_445.out; have hnc239 := NB445_472.out; have hnb240 := NB472_446.out; have hnc240 := NB446_472.out; have hnb241 := NB472_459.out; have hnc241 := NB459_472.out; have hnb242 := NB472_471.out; have hnc242 := NB471_472.out; have hcz243_0 : w238.cell? ⟨gb472, 0, none⟩ = some (.int .u8 0) := (blk_cell BK472.out 0).trans rfl; have hcz243_1 : w238.cell? ⟨gb472, 1, none⟩ = some (.string (⟨#[]⟩ : ByteArray)) := (blk_cell BK472.out 1).trans rfl; have hcz243_2 : w238.cell? ⟨gb472, 2, none⟩ = some (.slice none 0 0) := (blk_cell BK472.out 2).trans rfl; have hcz243_3 : w238.cell? ⟨gb472, 3, none⟩ = some (.slice none 0 0) := (blk_cell BK472.out 3).trans rfl; have hcz243_4 : w238.cell? ⟨gb472, 4, none⟩ = some (.slice none 0 0) := (blk_cell BK472.out 4).trans rfl; have hfz243_0 := blk_frozen BK472.out 0; have hfz243_1 := blk_frozen BK472.out 1; have hfz243_2 := blk_frozen BK472.out 2; have hfz243_3 := blk_frozen BK472.out 3; have hfz243_4 := blk_frozen BK472.out 4; have hcz244_0 : w238.cell? ⟨gb459, 0, none⟩ = some (.int .u8 t448) := (blk_cell BK459.out 0).trans rfl; have hcz244_1 : w238.cell? ⟨gb459, 1, none⟩ = some (.string t449) := (blk_cell BK459.out 1).trans rfl; have hcz244_2 : w238.cell? ⟨gb459, 2, none⟩ = some (.slice Ao224 t450.length co224) := (blk_cell BK459.out 2).trans rfl; have hcz244_3 : w238.cell? ⟨gb459, 3, none⟩ = some (.slice Ao225 t453.length co225) := (blk_cell BK459.out 3).trans rfl; have hcz244_4 : w238.cell? ⟨gb459, 4, none⟩ = some (.slice Ao226 t456.length co226) := (blk_cell BK459.out 4).trans rfl; have hfz244_0 := blk_frozen BK459.out 0; have hfz244_1 := blk_frozen BK459.out 1; have hfz244_2 := blk_frozen BK459.out 2; have hfz244_3 := blk_frozen BK459.out 3; have hfz244_4 := blk_frozen BK459.out 4))
              have n0_ : Aside0 (Kd.R Kd.string 9 ((((((w238.setCell ⟨gb472, 0, none⟩ (.int .u8 t448)).setCell ⟨gb472, 1, none⟩ (.string t449)).setCell ⟨gb472, 2, none⟩ (.slice Ao224 t450.length co224)).setCell ⟨gb472, 3, none⟩ (.slice Ao225 t453.length co225)).setCell ⟨gb472, 4, none⟩ (.slice Ao226 t456.length co226)).setCell ⟨gb472, 0, none⟩ (.int .u8 ((t448 + 1) % 256))) w.heap.size (fun k_ => some k_ ≠ (.slice Ao234 t462.length co234 : Value).ownBlock) (.slice Ao224 t450.length co224) t450) := ⟨by (with_reducible repeat (first | apply Kd.R_alloc | apply Kd.R_drewN | apply Kd.R_drew)); exact Kd.R_mono (Kd.R_far (p := ⟨gb472, 0, none⟩) (Kd.R_far (p := ⟨gb472, 4, none⟩) (Kd.R_far (p := ⟨gb472, 3, none⟩) (Kd.R_far (p := ⟨gb472, 2, none⟩) (Kd.R_far (p := ⟨gb472, 1, none⟩) (Kd.R_far (p := ⟨gb472, 0, none⟩) (Kd.R_types HO452.out BK472.out (by decide)) (fun _ hk => hk.2) (.int .u8 t448)) (fun _ hk => hk.2) (.string t449)) (fun _ hk => hk.2) (.slice Ao224 t450.length co224)) (fun _ hk => hk.2) (.slice Ao225 t453.length co225)) (fun _ hk => hk.2) (.slice Ao226 t456.length co226)) (fun _ hk => hk.2) (.int .u8 ((t448 + 1) % 256))) (fun _ hk => hk.1.2)⟩
              have n1_ : Aside0 (Kd.R k60 60 ((((((w238.setCell ⟨gb472, 0, none⟩ (.int .u8 t448)).setCell ⟨gb472, 1, none⟩ (.string t449)).setCell ⟨gb472, 2, none⟩ (.slice Ao224 t450.length co224)).setCell ⟨gb472, 3, none⟩ (.slice Ao225 t453.length co225)).setCell ⟨gb472, 4, none⟩ (.slice Ao226 t456.length co226)).setCell ⟨gb472, 0, none⟩ (.int .u8 ((t448 + 1) % 256))) w.heap.size (fun k_ => some k_ ≠ (.slice Ao235 t465.length co235 : Value).ownBlock) (.slice Ao225 t453.length co225) t453) := ⟨by (with_reducible repeat (first | apply Kd.R_alloc | apply Kd.R_drewN | apply Kd.R_drew)); exact Kd.R_mono (Kd.R_far (p := ⟨gb472, 0, none⟩) (Kd.R_far (p := ⟨gb472, 4, none⟩) (Kd.R_far (p := ⟨gb472, 3, none⟩) (Kd.R_far (p := ⟨gb472, 2, none⟩) (Kd.R_far (p := ⟨gb472, 1, none⟩) (Kd.R_far (p := ⟨gb472, 0, none⟩) (Kd.R_types HO455.out BK472.out (by decide)) (fun _ hk => hk.2) (.int .u8 t448)) (fun _ hk => hk.2) (.string t449)) (fun _ hk => hk.2) (.slice Ao224 t450.length co224)) (fun _ hk => hk.2) (.slice Ao225 t453.length co225)) (fun _ hk => hk.2) (.slice Ao226 t456.length co226)) (fun _ hk => hk.2) (.int .u8 ((t448 + 1) % 256))) (fun _ hk => hk.1.2)⟩
              have n2_ : Aside0 (Kd.R k62 62 ((((((w238.setCell ⟨gb472, 0, none⟩ (.int .u8 t448)).setCell ⟨gb472, 1, none⟩ (.string t449)).setCell ⟨gb472, 2, none⟩ (.slice Ao224 t450.length co224)).setCell ⟨gb472, 3, none⟩ (.slice Ao225 t453.length co225)).setCell ⟨gb472, 4, none⟩ (.slice Ao226 t456.length co226)).setCell ⟨gb472, 0, none⟩ (.int .u8 ((t448 + 1) % 256))) w.heap.size (fun k_ => some k_ ≠ (.slice Ao236 t468.length co236 : Value).ownBlock) (.slice Ao226 t456.length co226) t456) := ⟨by (with_reducible repeat (first | apply Kd.R_alloc | apply Kd.R_drewN | apply Kd.R_drew)); exact Kd.R_mono (Kd.R_far (p := ⟨gb472, 0, none⟩) (Kd.R_far (p := ⟨gb472, 4, none⟩) (Kd.R_far (p := ⟨gb472, 3, none⟩) (Kd.R_far (p := ⟨gb472, 2, none⟩) (Kd.R_far (p := ⟨gb472, 1, none⟩) (Kd.R_far (p := ⟨gb472, 0, none⟩) (Kd.R_types HO458.out BK472.out (by decide)) (fun _ hk => hk.2) (.int .u8 t448)) (fun _ hk => hk.2) (.string t449)) (fun _ hk => hk.2) (.slice Ao224 t450.length co224)) (fun _ hk => hk.2) (.slice Ao225 t453.length co225)) (fun _ hk => hk.2) (.slice Ao226 t456.length co226)) (fun _ hk => hk.2) (.int .u8 ((t448 + 1) % 256))) (fun _ hk => hk.1.2)⟩
              have n3_ : Aside0 (Kd.R Kd.string 9 ((((((w238.setCell ⟨gb472, 0, none⟩ (.int .u8 t448)).setCell ⟨gb472, 1, none⟩ (.string t449)).setCell ⟨gb472, 2, none⟩ (.slice Ao224 t450.length co224)).setCell ⟨gb472, 3, none⟩ (.slice Ao225 t453.length co225)).setCell ⟨gb472, 4, none⟩ (.slice Ao226 t456.length co226)).setCell ⟨gb472, 0, none⟩ (.int .u8 ((t448 + 1) % 256))) w.heap.size (fun k_ => some k_ ≠ (.slice Ao224 t450.length co224 : Value).ownBlock) (.slice Ao234 t462.length co234) t462) := ⟨by (with_reducible repeat (first | apply Kd.R_alloc | apply Kd.R_drewN | apply Kd.R_drew)); exact Kd.R_mono (Kd.R_far (p := ⟨gb472, 0, none⟩) (Kd.R_far (p := ⟨gb472, 4, none⟩) (Kd.R_far (p := ⟨gb472, 3, none⟩) (Kd.R_far (p := ⟨gb472, 2, none⟩) (Kd.R_far (p := ⟨gb472, 1, none⟩) (Kd.R_far (p := ⟨gb472, 0, none⟩) (Kd.R_types HO464.out BK472.out (by decide)) (fun _ hk => hk.2) (.int .u8 t448)) (fun _ hk => hk.2) (.string t449)) (fun _ hk => hk.2) (.slice Ao224 t450.length co224)) (fun _ hk => hk.2) (.slice Ao225 t453.length co225)) (fun _ hk => hk.2) (.slice Ao226 t456.length co226)) (fun _ hk => hk.2) (.int .u8 ((t448 + 1) % 256))) (fun _ hk => hk.1.2)⟩
              have n4_ : Aside0 (Kd.R k60 60 ((((((w238.setCell ⟨gb472, 0, none⟩ (.int .u8 t448)).setCell ⟨gb472, 1, none⟩ (.string t449)).setCell ⟨gb472, 2, none⟩ (.slice Ao224 t450.length co224)).setCell ⟨gb472, 3, none⟩ (.slice Ao225 t453.length co225)).setCell ⟨gb472, 4, none⟩ (.slice Ao226 t456.length co226)).setCell ⟨gb472, 0, none⟩ (.int .u8 ((t448 + 1) % 256))) w.heap.size (fun k_ => some k_ ≠ (.slice Ao225 t453.length co225 : Value).ownBlock) (.slice Ao235 t465.length co235) t465) := ⟨by (with_reducible repeat (first | apply Kd.R_alloc | apply Kd.R_drewN | apply Kd.R_drew)); exact Kd.R_mono (Kd.R_far (p := ⟨gb472, 0, none⟩) (Kd.R_far (p := ⟨gb472, 4, none⟩) (Kd.R_far (p := ⟨gb472, 3, none⟩) (Kd.R_far (p := ⟨gb472, 2, none⟩) (Kd.R_far (p := ⟨gb472, 1, none⟩) (Kd.R_far (p := ⟨gb472, 0, none⟩) (Kd.R_types HO467.out BK472.out (by decide)) (fun _ hk => hk.2) (.int .u8 t448)) (fun _ hk => hk.2) (.string t449)) (fun _ hk => hk.2) (.slice Ao224 t450.length co224)) (fun _ hk => hk.2) (.slice Ao225 t453.length co225)) (fun _ hk => hk.2) (.slice Ao226 t456.length co226)) (fun _ hk => hk.2) (.int .u8 ((t448 + 1) % 256))) (fun _ hk => hk.1.2)⟩
              have n5_ : Aside0 (Kd.R k62 62 ((((((w238.setCell ⟨gb472, 0, none⟩ (.int .u8 t448)).setCell ⟨gb472, 1, none⟩ (.string t449)).setCell ⟨gb472, 2, none⟩ (.slice Ao224 t450.length co224)).setCell ⟨gb472, 3, none⟩ (.slice Ao225 t453.length co225)).setCell ⟨gb472, 4, none⟩ (.slice Ao226 t456.length co226)).setCell ⟨gb472, 0, none⟩ (.int .u8 ((t448 + 1) % 256))) w.heap.size (fun k_ => some k_ ≠ (.slice Ao226 t456.length co226 : Value).ownBlock) (.slice Ao236 t468.length co236) t468) := ⟨by (with_reducible repeat (first | apply Kd.R_alloc | apply Kd.R_drewN | apply Kd.R_drew)); exact Kd.R_mono (Kd.R_far (p := ⟨gb472, 0, none⟩) (Kd.R_far (p := ⟨gb472, 4, none⟩) (Kd.R_far (p := ⟨gb472, 3, none⟩) (Kd.R_far (p := ⟨gb472, 2, none⟩) (Kd.R_far (p := ⟨gb472, 1, none⟩) (Kd.R_far (p := ⟨gb472, 0, none⟩) (Kd.R_types HO470.out BK472.out (by decide)) (fun _ hk => hk.2) (.int .u8 t448)) (fun _ hk => hk.2) (.string t449)) (fun _ hk => hk.2) (.slice Ao224 t450.length co224)) (fun _ hk => hk.2) (.slice Ao225 t453.length co225)) (fun _ hk => hk.2) (.slice Ao226 t456.length co226)) (fun _ hk => hk.2) (.int .u8 ((t448 + 1) % 256))) (fun _ hk => hk.1.2)⟩
              have n6_ : Aside0 (((((((w238.setCell ⟨gb472, 0, none⟩ (.int .u8 t448)).setCell ⟨gb472, 1, none⟩ (.string t449)).setCell ⟨gb472, 2, none⟩ (.slice Ao224 t450.length co224)).setCell ⟨gb472, 3, none⟩ (.slice Ao225 t453.length co225)).setCell ⟨gb472, 4, none⟩ (.slice Ao226 t456.length co226)).setCell ⟨gb472, 0, none⟩ (.int .u8 ((t448 + 1) % 256))).heap[gb445]? = some (.cells #[.int .u8 a0_0, .string a0_1, .slice A0_2 l0_2.length c0_2, .slice A0_3 l0_3.length c0_3, .slice A0_4 l0_4.length c0_4] 26 (0, 0))) := ⟨by (with_reducible repeat (first | refine blk_drewN ?_ _ | refine blk_drew ?_ | refine blk_alloc ?_ _)); refine blk_far ?_ NB445_472.out _; (with_reducible repeat (first | refine blk_drewN ?_ _ | refine blk_drew ?_ | refine blk_alloc ?_ _)); refine blk_far ?_ NB445_472.out _; (with_reducible repeat (first | refine blk_drewN ?_ _ | refine blk_drew ?_ | refine blk_alloc ?_ _)); refine blk_far ?_ NB445_472.out _; (with_reducible repeat (first | refine blk_drewN ?_ _ | refine blk_drew ?_ | refine blk_alloc ?_ _)); refine blk_far ?_ NB445_472.out _; (with_reducible repeat (first | refine blk_drewN ?_ _ | refine blk_drew ?_ | refine blk_alloc ?_ _)); refine blk_far ?_ NB445_472.out _; (with_reducible repeat (first | refine blk_drewN ?_ _ | refine blk_drew ?_ | refine blk_alloc ?_ _)); refine blk_far ?_ NB445_472.out _; (with_reducible repeat (first | refine blk_drewN ?_ _ | refine blk_drew ?_ | refine blk_alloc ?_ _)); exact BK445.out⟩
              have n7_ : Aside0 (((((((w238.setCell ⟨gb472, 0, none⟩ (.int .u8 t448)).setCell ⟨gb472, 1, none⟩ (.string t449)).setCell ⟨gb472, 2, none⟩ (.slice Ao224 t450.length co224)).setCell ⟨gb472, 3, none⟩ (.slice Ao225 t453.length co225)).setCell ⟨gb472, 4, none⟩ (.slice Ao226 t456.length co226)).setCell ⟨gb472, 0, none⟩ (.int .u8 ((t448 + 1) % 256))).heap[gb446]? = some (.cells #[.int .u8 a1_0, .string a1_1, .slice A1_2 l1_2.length c1_2, .slice A1_3 l1_3.length c1_3, .slice A1_4 l1_4.length c1_4] 26 (0, 0))) := ⟨by (with_reducible repeat (first | refine blk_drewN ?_ _ | refine blk_drew ?_ | refine blk_alloc ?_ _)); refine blk_far ?_ NB446_472.out _; (with_reducible repeat (first | refine blk_drewN ?_ _ | refine blk_drew ?_ | refine blk_alloc ?_ _)); refine blk_far ?_ NB446_472.out _; (with_reducible repeat (first | refine blk_drewN ?_ _ | refine blk_drew ?_ | refine blk_alloc ?_ _)); refine blk_far ?_ NB446_472.out _; (with_reducible repeat (first | refine blk_drewN ?_ _ | refine blk_drew ?_ | refine blk_alloc ?_ _)); refine blk_far ?_ NB446_472.out _; (with_reducible repeat (first | refine blk_drewN ?_ _ | refine blk_drew ?_ | refine blk_alloc ?_ _)); refine blk_far ?_ NB446_472.out _; (with_reducible repeat (first | refine blk_drewN ?_ _ | refine blk_drew ?_ | refine blk_alloc ?_ _)); refine blk_far ?_ NB446_472.out _; (with_reducible repeat (first | refine blk_drewN ?_ _ | refine blk_drew ?_ | refine blk_alloc ?_ _)); exact BK446.out⟩
              have n8_ : Aside0 (((((((w238.setCell ⟨gb472, 0, none⟩ (.int .u8 t448)).setCell ⟨gb472, 1, none⟩ (.string t449)).setCell ⟨gb472, 2, none⟩ (.slice Ao224 t450.length co224)).setCell ⟨gb472, 3, none⟩ (.slice Ao225 t453.length co225)).setCell ⟨gb472, 4, none⟩ (.slice Ao226 t456.length co226)).setCell ⟨gb472, 0, none⟩ (.int .u8 ((t448 + 1) % 256))).heap[gb459]? = some (.cells #[.int .u8 t448, .string t449, .slice Ao224 t450.length co224, .slice Ao225 t453.length co225, .slice Ao226 t456.length co226] 26 (0, 0))) := ⟨by (with_reducible repeat (first | refine blk_drewN ?_ _ | refine blk_drew ?_ | refine blk_alloc ?_ _)); refine blk_far ?_ NB459_472.out _; (with_reducible repeat (first | refine blk_drewN ?_ _ | refine blk_drew ?_ | refine blk_alloc ?_ _)); refine blk_far ?_ NB459_472.out _; (with_reducible repeat (first | refine blk_drewN ?_ _ | refine blk_drew ?_ | refine blk_alloc ?_ _)); refine blk_far ?_ NB459_472.out _; (with_reducible repeat (first | refine blk_drewN ?_ _ | refine blk_drew ?_ | refine blk_alloc ?_ _)); refine blk_far ?_ NB459_472.out _; (with_reducible repeat (first | refine blk_drewN ?_ _ | refine blk_drew ?_ | refine blk_alloc ?_ _)); refine blk_far ?_ NB459_472.out _; (with_reducible repeat (first | refine blk_drewN ?_ _ | refine blk_drew ?_ | refine blk_alloc ?_ _)); refine blk_far ?_ NB459_472.out _; (with_reducible repeat (first | refine blk_drewN ?_ _ | refine blk_drew ?_ | refine blk_alloc ?_ _)); exact BK459.out⟩
              have n9_ : Aside0 (((((((w238.setCell ⟨gb472, 0, none⟩ (.int .u8 t448)).setCell ⟨gb472, 1, none⟩ (.string t449)).setCell ⟨gb472, 2, none⟩ (.slice Ao224 t450.length co224)).setCell ⟨gb472, 3, none⟩ (.slice Ao225 t453.length co225)).setCell ⟨gb472, 4, none⟩ (.slice Ao226 t456.length co226)).setCell ⟨gb472, 0, none⟩ (.int .u8 ((t448 + 1) % 256))).heap[gb471]? = some (.cells #[.int .u8 t460, .string t461, .slice Ao234 t462.length co234, .slice Ao235 t465.length co235, .slice Ao236 t468.length co236] 26 (0, 0))) := ⟨by (with_reducible repeat (first | refine blk_drewN ?_ _ | refine blk_drew ?_ | refine blk_alloc ?_ _)); refine blk_far ?_ NB471_472.out _; (with_reducible repeat (first | refine blk_drewN ?_ _ | refine blk_drew ?_ | refine blk_alloc ?_ _)); refine blk_far ?_ NB471_472.out _; (with_reducible repeat (first | refine blk_drewN ?_ _ | refine blk_drew ?_ | refine blk_alloc ?_ _)); refine blk_far ?_ NB471_472.out _; (with_reducible repeat (first | refine blk_drewN ?_ _ | refine blk_drew ?_ | refine blk_alloc ?_ _)); refine blk_far ?_ NB471_472.out _; (with_reducible repeat (first | refine blk_drewN ?_ _ | refine blk_drew ?_ | refine blk_alloc ?_ _)); refine blk_far ?_ NB471_472.out _; (with_reducible repeat (first | refine blk_drewN ?_ _ | refine blk_drew ?_ | refine blk_alloc ?_ _)); refine blk_far ?_ NB471_472.out _; (with_reducible repeat (first | refine blk_drewN ?_ _ | refine blk_drew ?_ | refine blk_alloc ?_ _)); exact BK471.out⟩
              have n10_ : Aside0 (((((((w238.setCell ⟨gb472, 0, none⟩ (.int .u8 t448)).setCell ⟨gb472, 1, none⟩ (.string t449)).setCell ⟨gb472, 2, none⟩ (.slice Ao224 t450.length co224)).setCell ⟨gb472, 3, none⟩ (.slice Ao225 t453.length co225)).setCell ⟨gb472, 4, none⟩ (.slice Ao226 t456.length co226)).setCell ⟨gb472, 0, none⟩ (.int .u8 ((t448 + 1) % 256))).heap[gb472]? = some (.cells #[.int .u8 ((t448 + 1) % 256), .string t449, .slice Ao224 t450.length co224, .slice Ao225 t453.length co225, .slice Ao226 t456.length co226] 26 (0, 0))) := ⟨by (with_reducible repeat (first | refine blk_drewN ?_ _ | refine blk_drew ?_ | refine blk_alloc ?_ _)); refine blk_put (cs := #[.int .u8 t448, .string t449, .slice Ao224 t450.length co224, .slice Ao225 t453.length co225, .slice Ao226 t456.length co226]) ?_ 0 _ rfl; (with_reducible repeat (first | refine blk_drewN ?_ _ | refine blk_drew ?_ | refine blk_alloc ?_ _)); refine blk_put (cs := #[.int .u8 t448, .string t449, .slice Ao224 t450.length co224, .slice Ao225 t453.length co225, .slice none 0 0]) ?_ 4 _ rfl; (with_reducible repeat (first | refine blk_drewN ?_ _ | refine blk_drew ?_ | refine blk_alloc ?_ _)); refine blk_put (cs := #[.int .u8 t448, .string t449, .slice Ao224 t450.length co224, .slice none 0 0, .slice none 0 0]) ?_ 3 _ rfl; (with_reducible repeat (first | refine blk_drewN ?_ _ | refine blk_drew ?_ | refine blk_alloc ?_ _)); refine blk_put (cs := #[.int .u8 t448, .string t449, .slice none 0 0, .slice none 0 0, .slice none 0 0]) ?_ 2 _ rfl; (with_reducible repeat (first | refine blk_drewN ?_ _ | refine blk_drew ?_ | refine blk_alloc ?_ _)); refine blk_put (cs := #[.int .u8 t448, .string (⟨#[]⟩ : ByteArray), .slice none 0 0, .slice none 0 0, .slice none 0 0]) ?_ 1 _ rfl; (with_reducible repeat (first | refine blk_drewN ?_ _ | refine blk_drew ?_ | refine blk_alloc ?_ _)); refine blk_put (cs := #[.int .u8 0, .string (⟨#[]⟩ : ByteArray), .slice none 0 0, .slice none 0 0, .slice none 0 0]) ?_ 0 _ rfl; (with_reducible repeat (first | refine blk_drewN ?_ _ | refine blk_drew ?_ | refine blk_alloc ?_ _)); exact BK472.out⟩
              have n11_ : Aside0 (Below w.heap.size w ((((((w238.setCell ⟨gb472, 0, none⟩ (.int .u8 t448)).setCell ⟨gb472, 1, none⟩ (.string t449)).setCell ⟨gb472, 2, none⟩ (.slice Ao224 t450.length co224)).setCell ⟨gb472, 3, none⟩ (.slice Ao225 t453.length co225)).setCell ⟨gb472, 4, none⟩ (.slice Ao226 t456.length co226)).setCell ⟨gb472, 0, none⟩ (.int .u8 ((t448 + 1) % 256)))) := ⟨by repeat (first | (with_reducible first | exact HB.out | apply below_alloc | apply pw_below_drewN | apply below_drew1 | refine below_set ?_ GE445.out | refine below_set ?_ GE446.out | refine below_set ?_ GE459.out | refine below_set ?_ GE471.out | refine below_set ?_ GE472.out) | exact HB.out)⟩
              (try clear HO452)
              (try clear HO455)
              (try clear HO458)
              (try clear HO464)
              (try clear HO467)
              (try clear HO470)
              (try clear BK445)
              (try clear BK446)
              (try clear BK459)
              (try clear BK471)
              (try clear BK472)
              (try clear HB)
              generalize ((((((w238.setCell ⟨gb472, 0, none⟩ (.int .u8 t448)).setCell ⟨gb472, 1, none⟩ (.string t449)).setCell ⟨gb472, 2, none⟩ (.slice Ao224 t450.length co224)).setCell ⟨gb472, 3, none⟩ (.slice Ao225 t453.length co225)).setCell ⟨gb472, 4, none⟩ (.slice Ao226 t456.length co226)).setCell ⟨gb472, 0, none⟩ (.int .u8 ((t448 + 1) % 256))) = w245 at n0_ n1_ n2_ n3_ n4_ n5_ n6_ n7_ n8_ n9_ n10_ n11_ ⊢
              have HO452 := n0_
              have HO455 := n1_
              have HO458 := n2_
              have HO464 := n3_
              have HO467 := n4_
              have HO470 := n5_
              have BK445 := n6_
              have BK446 := n7_
              have BK459 := n8_
              have BK471 := n9_
              have BK472 := n10_
              have HB := n11_
              clear n0_ n1_ n2_ n3_ n4_ n5_ n6_ n7_ n8_ n9_ n10_ n11_
              have n0_ := Aside0.mk (Kd.R_drew HO452.out)
              have n1_ := Aside0.mk (Kd.R_drew HO455.out)
              have n2_ := Aside0.mk (Kd.R_drew HO458.out)
              have n3_ := Aside0.mk (Kd.R_drew HO464.out)
              have n4_ := Aside0.mk (Kd.R_drew HO467.out)
              have n5_ := Aside0.mk (Kd.R_drew HO470.out)
              have n6_ := Aside0.mk (blk_drew BK445.out)
              have n7_ := Aside0.mk (blk_drew BK446.out)
              have n8_ := Aside0.mk (blk_drew BK459.out)
              have n9_ := Aside0.mk (blk_drew BK471.out)
              have n10_ := Aside0.mk (blk_drew BK472.out)
              have n11_ := Aside0.mk (below_drew1 HB.out)
              clear HO452
              clear HO455
              clear HO458
              clear HO464
              clear HO467
              clear HO470
              clear BK445
              clear BK446
              clear BK459
              clear BK471
              clear BK472
              clear HB
              have HO452 := n0_
              have HO455 := n1_
              have HO458 := n2_
              have HO464 := n3_
              have HO467 := n4_
              have HO470 := n5_
              have BK445 := n6_
              have BK446 := n7_
              have BK459 := n8_
              have BK471 := n9_
              have BK472 := n10_
              have HB := n11_
              clear n0_ n1_ n2_ n3_ n4_ n5_ n6_ n7_ n8_ n9_ n10_ n11_
              refine start_ (n := 52) (S := fun w' => w'.cell? ⟨gb459, 0, none⟩ = some (.int .u8 t448) ∧ w'.cell? ⟨gb459, 1, none⟩ = some (.string t449) ∧ w'.cell? ⟨gb459, 2, none⟩ = some (.slice Ao224 t450.length co224) ∧ w'.cell? ⟨gb459, 3, none⟩ = some (.slice Ao225 t453.length co225) ∧ w'.cell? ⟨gb459, 4, none⟩ = some (.slice Ao226 t456.length co226) ∧ w'.cell? ⟨gb471, 0, none⟩ = some (.int .u8 t460) ∧ w'.cell? ⟨gb471, 1, none⟩ = some (.string t461) ∧ w'.cell? ⟨gb471, 2, none⟩ = some (.slice Ao234 t462.length co234) ∧ w'.cell? ⟨gb471, 3, none⟩ = some (.slice Ao235 t465.length co235) ∧ w'.cell? ⟨gb471, 4, none⟩ = some (.slice Ao236 t468.length co236) ∧ w'.cell? ⟨gb472, 0, none⟩ = some (.int .u8 ((t448 + 1) % 256)) ∧ w'.cell? ⟨gb472, 1, none⟩ = some (.string t449) ∧ w'.cell? ⟨gb472, 2, none⟩ = some (.slice Ao224 t450.length co224) ∧ w'.cell? ⟨gb472, 3, none⟩ = some (.slice Ao225 t453.length co225) ∧ w'.cell? ⟨gb472, 4, none⟩ = some (.slice Ao226 t456.length co226)) (ds := []) #[false, false, false, false, false, false, false, false, false, false, false, false, false, false, false, false, false, false, false, false, false, false, false, false, false, false, false, false, false, false, false, false, false, false, false, false, false, false, false, false, false, false, false, false, false, false, false, false, false, false, false, false] (by kernel_rfl) rfl rfl ⟨(blk_cell BK459.out 0).trans rfl, (blk_cell BK459.out 1).trans rfl, (blk_cell BK459.out 2).trans rfl, (blk_cell BK459.out 3).trans rfl, (blk_cell BK459.out 4).trans rfl, (blk_cell BK471.out 0).trans rfl, (blk_cell BK471.out 1).trans rfl, (blk_cell BK471.out 2).trans rfl, (blk_cell BK471.out 3).trans rfl, (blk_cell BK471.out 4).trans rfl, (blk_cell BK472.out 0).trans rfl, (blk_cell BK472.out 1).trans rfl, (blk_cell BK472.out 2).trans rfl, (blk_cell BK472.out 3).trans rfl, (blk_cell BK472.out 4).trans rfl⟩ (fun hHeld => ?_); refine with_tabW tipstafflaw09_ValueKinds.tab6 tipstafflaw09_ValueKinds.bits6 (fun HT_ HW_ => ?_)
              generalize w245.drew = w246 at HO452 HO455 HO458 HO464 HO467 HO470 BK445 BK446 BK459 BK471 BK472 HB hHeld ⊢
              refine pure_ (i := 0) (N := some 19) (v := ?_) (a' := ?_) #[true, false, false, false, false, false, false, false, false, false, false, false, false, false, false, false, false, false, false, false, false, false, false, false, false, false, false, false, false, false, false, false, false, false, false, false, false, false, false, false, false, false, false, false, false, false, false, false, false, false, false, false] rfl rfl (any_of HT_.out (by kernel_rfl)) (fun _ _ _ h => h) (Or.inl ⟨by rfl, ?_⟩) ?_ ?_
              rotate_left
              · intro w'
                go_simp
                with_reducible rfl
              rotate_left
              · simp only [Act.put, List.setIfInBounds_toArray, List.set_cons_zero, List.set_cons_succ, i64_w, i32_w]
                rfl
              refine pure_ (i := 1) (N := some 20) (v := ?_) (a' := ?_) #[true, true, false, false, false, false, false, false, false, false, false, false, false, false, false, false, false, false, false, false, false, false, false, false, false, false, false, false, false, false, false, false, false, false, false, false, false, false, false, false, false, false, false, false, false, false, false, false, false, false, false, false] rfl rfl (any_of HT_.out (by kernel_rfl)) (fun _ _ _ h => h) (Or.inl ⟨by rfl, ?_⟩) ?_ ?_
              rotate_left
              · intro w'
                go_simp
                with_reducible rfl
              rotate_left
              · simp only [Act.put, List.setIfInBounds_toArray, List.set_cons_zero, List.set_cons_succ, i64_w, i32_w]
                rfl
              refine take_ (i := 2) (N := some 21) (v := ?_) (a' := ?_) #[true, true, true, false, false, false, false, false, false, false, false, false, false, false, false, false, false, false, false, false, false, false, false, false, false, false, false, false, false, false, false, false, false, false, false, false, false, false, false, false, false, false, false, false, false, false, false, false, false, false, false, false] rfl rfl (take_ofW HT_.out HW_.out (by kernel_rfl)) (fun _ _ _ h => h) (Or.inl ⟨by rfl, ?_⟩) hHeld ?_ ?_
              rotate_left
              · rintro w' ⟨s0, s1, s2, s3, s4, s5, s6, s7, s8, s9, s10, s11, s12, s13, s14⟩
                go_simp
                with_reducible rfl
              rotate_left
              · simp only [Act.put, List.setIfInBounds_toArray, List.set_cons_zero, List.set_cons_succ, i64_w, i32_w]
                rfl
              refine take_ (i := 3) (N := some 22) (v := ?_) (a' := ?_) #[true, true, true, true, false, false, false, false, false, false, false, false, false, false, false, false, false, false, false, false, false, false, false, false, false, false, false, false, false, false, false, false, false, false, false, false, false, false, false, false, false, false, false, false, false, false, false, false, false, false, false, false] rfl rfl (take_ofW HT_.out HW_.out (by kernel_rfl)) (fun _ _ _ h => h) (Or.inl ⟨by rfl, ?_⟩) hHeld ?_ ?_
              rotate_left
              · rintro w' ⟨s0, s1, s2, s3, s4, s5, s6, s7, s8, s9, s10, s11, s12, s13, s14⟩
                go_simp
                with_reducible rfl
              rotate_left
              · simp only [Act.put, List.setIfInBounds_toArray, List.set_cons_zero, List.set_cons_succ, i64_w, i32_w]
                rfl
              refine take_ (i := 5) (N := some 24) (v := ?_) (a' := ?_) #[true, true, true, true, false, true, false, false, false, false, false, false, false, false, false, false, false, false, false, false, false, false, false, false, false, false, false, false, false, false, false, false, false, false, false, false, false, false, false, false, false, false, false, false, false, false, false, false, false, false, false, false] rfl rfl (take_ofW HT_.out HW_.out (by kernel_rfl)) (fun _ _ _ h => h) (Or.inl ⟨by rfl, ?_⟩) hHeld ?_ ?_
              rotate_left
              · rintro w' ⟨s0, s1, s2, s3, s4, s5, s6, s7, s8, s9, s10, s11, s12, s13, s14⟩
                go_simp
                with_reducible rfl
              rotate_left
              · simp only [Act.put, List.setIfInBounds_toArray, List.set_cons_zero, List.set_cons_succ, i64_w, i32_w]
                rfl
              refine take_ (i := 6) (N := some 25) (v := ?_) (a' := ?_) #[true, true, true, true, false, true, true, false, false, false, false, false, false, false, false, false, false, false, false, false, false, false, false, false, false, false, false, false, false, false, false, false, false, false, false, false, false, false, false, false, false, false, false, false, false, false, false, false, false, false, false, false] rfl rfl (take_ofW HT_.out HW_.out (by kernel_rfl)) (fun _ _ _ h => h) (Or.inl ⟨by rfl, ?_⟩) hHeld ?_ ?_
              rotate_left
              · rintro w' ⟨s0, s1, s2, s3, s4, s5, s6, s7, s8, s9, s10, s11, s12, s13, s14⟩
                go_simp
                with_reducible rfl
              rotate_left
              · simp only [Act.put, List.setIfInBounds_toArray, List.set_cons_zero, List.set_cons_succ, i64_w, i32_w]
                rfl
              refine one_ (i := 4) (N := some 23) #[true, true, true, true, true, true, true, false, false, false, false, false, false, false, false, false, false, false, false, false, false, false, false, false, false, false, false, false, false, false, false, false, false, false, false, false, false, false, false, false, false, false, false, false, false, false, false, false, false, false, false, false] rfl rfl (one_of HT_.out (by kernel_rfl)) (by decide) (fun K hK => ?_)
              refine goes_ Try.func23 (by kernel_rfl) rfl #[.agg #[.int .u8 t448, .string t449, .slice Ao224 t450.length co224, .slice Ao225 t453.length co225, .slice Ao226 t456.length co226], .agg #[.int .u8 t460, .string t461, .slice Ao234 t462.length co234, .slice Ao235 t465.length co235, .slice Ao236 t468.length co236]] (by rfl) rfl rfl (by (try simp only [List.map_toArray, List.map_cons, List.map_nil]); first | done | rfl | (simp only [List.length_drop, List.length_take]; rfl)) ?_
              with_reducible refine (value_Same.calls k t448 t449 _ _ t450 _ _ t453 _ _ t456 t460 t461 _ _ t462 _ _ t465 _ _ t468 t473 _ ?side1 ?side2 ?side3 ?side4 ?side5 ?side6 ?side7 ?side8 ?side9 ?side10 ?side11 ?side12 A7.out).mono ?_
              (case side1 => repeat (first | exact (Kd.R_reads' HO452.out).2.2 | (with_reducible refine Kd.C_alloc ?_ _) | (with_reducible refine Kd.C_drewN ?_ _) | (with_reducible refine Kd.C_drew ?_)))
              (case side2 => exact (Kd.R_reads' HO452.out).2.1)
              (case side3 => repeat (first | exact (Kd.R_reads' HO455.out).2.2 | (with_reducible refine Kd.C_alloc ?_ _) | (with_reducible refine Kd.C_drewN ?_ _) | (with_reducible refine Kd.C_drew ?_)))
              (case side4 => exact (Kd.R_reads' HO455.out).2.1)
              (case side5 => repeat (first | exact (Kd.R_reads' HO458.out).2.2 | (with_reducible refine Kd.C_alloc ?_ _) | (with_reducible refine Kd.C_drewN ?_ _) | (with_reducible refine Kd.C_drew ?_)))
              (case side6 => exact (Kd.R_reads' HO458.out).2.1)
              (case side7 => repeat (first | exact (Kd.R_reads' HO464.out).2.2 | (with_reducible refine Kd.C_alloc ?_ _) | (with_reducible refine Kd.C_drewN ?_ _) | (with_reducible refine Kd.C_drew ?_)))
              (case side8 => exact (Kd.R_reads' HO464.out).2.1)
              (case side9 => repeat (first | exact (Kd.R_reads' HO467.out).2.2 | (with_reducible refine Kd.C_alloc ?_ _) | (with_reducible refine Kd.C_drewN ?_ _) | (with_reducible refine Kd.C_drew ?_)))
              (case side10 => exact (Kd.R_reads' HO467.out).2.1)
              (case side11 => repeat (first | exact (Kd.R_reads' HO470.out).2.2 | (with_reducible refine Kd.C_alloc ?_ _) | (with_reducible refine Kd.C_drewN ?_ _) | (with_reducible refine Kd.C_drew ?_)))
              (case side12 => exact (Kd.R_reads' HO470.out).2.1)
              rintro e w247 ⟨rfl, hb⟩
              refine ⟨_, rfl, ?_⟩
              have n0_ := Aside0.mk (Kd.R_below (by (with_reducible repeat (first | apply Kd.R_alloc | apply Kd.R_drewN | apply Kd.R_drew)); exact HO452.out) hb)
              have n1_ := Aside0.mk (Kd.R_below (by (with_reducible repeat (first | apply Kd.R_alloc | apply Kd.R_drewN | apply Kd.R_drew)); exact HO455.out) hb)
              have n2_ := Aside0.mk (Kd.R_below (by (with_reducible repeat (first | apply Kd.R_alloc | apply Kd.R_drewN | apply Kd.R_drew)); exact HO458.out) hb)
              have n3_ := Aside0.mk (Kd.R_below (by (with_reducible repeat (first | apply Kd.R_alloc | apply Kd.R_drewN | apply Kd.R_drew)); exact HO464.out) hb)
              have n4_ := Aside0.mk (Kd.R_below (by (with_reducible repeat (first | apply Kd.R_alloc | apply Kd.R_drewN | apply Kd.R_drew)); exact HO467.out) hb)
              have n5_ := Aside0.mk (Kd.R_below (by (with_reducible repeat (first | apply Kd.R_alloc | apply Kd.R_drewN | apply Kd.R_drew)); exact HO470.out) hb)
              have n6_ := Aside0.mk (blk_below (g := gb445) (o := .cells #[.int .u8 a0_0, .string a0_1, .slice A0_2 l0_2.length c0_2, .slice A0_3 l0_3.length c0_3, .slice A0_4 l0_4.length c0_4] 26 (0, 0)) (by (with_reducible repeat (first | refine blk_drewN ?_ _ | refine blk_drew ?_ | refine blk_alloc ?_ _)); exact BK445.out) hb)
              have n7_ := Aside0.mk (blk_below (g := gb446) (o := .cells #[.int .u8 a1_0, .string a1_1, .slice A1_2 l1_2.length c1_2, .slice A1_3 l1_3.length c1_3, .slice A1_4 l1_4.length c1_4] 26 (0, 0)) (by (with_reducible repeat (first | refine blk_drewN ?_ _ | refine blk_drew ?_ | refine blk_alloc ?_ _)); exact BK446.out) hb)
              have n8_ := Aside0.mk (blk_below (g := gb459) (o := .cells #[.int .u8 t448, .string t449, .slice Ao224 t450.length co224, .slice Ao225 t453.length co225, .slice Ao226 t456.length co226] 26 (0, 0)) (by (with_reducible repeat (first | refine blk_drewN ?_ _ | refine blk_drew ?_ | refine blk_alloc ?_ _)); exact BK459.out) hb)
              have n9_ := Aside0.mk (blk_below (g := gb471) (o := .cells #[.int .u8 t460, .string t461, .slice Ao234 t462.length co234, .slice Ao235 t465.length co235, .slice Ao236 t468.length co236] 26 (0, 0)) (by (with_reducible repeat (first | refine blk_drewN ?_ _ | refine blk_drew ?_ | refine blk_alloc ?_ _)); exact BK471.out) hb)
              have n10_ := Aside0.mk (blk_below (g := gb472) (o := .cells #[.int .u8 ((t448 + 1) % 256), .string t449, .slice Ao224 t450.length co224, .slice Ao225 t453.length co225, .slice Ao226 t456.length co226] 26 (0, 0)) (by (with_reducible repeat (first | refine blk_drewN ?_ _ | refine blk_drew ?_ | refine blk_alloc ?_ _)); exact BK472.out) hb)
              have n11_ := Aside0.mk (below_step (by repeat (first | (with_reducible first | exact HB.out | apply below_alloc | apply pw_below_drewN | apply below_drew1 | refine below_set ?_ GE445.out | refine below_set ?_ GE446.out | refine below_set ?_ GE459.out | refine below_set ?_ GE471.out | refine below_set ?_ GE472.out) | exact HB.out)) hb)
              clear HO452
              clear HO455
              clear HO458
              clear HO464
              clear HO467
              clear HO470
              clear BK445
              clear BK446
              clear BK459
              clear BK471
              clear BK472
              clear HB
              have HO452 := n0_
              have HO455 := n1_
              have HO458 := n2_
              have HO464 := n3_
              have HO467 := n4_
              have HO470 := n5_
              have BK445 := n6_
              have BK446 := n7_
              have BK459 := n8_
              have BK471 := n9_
              have BK472 := n10_
              have HB := n11_
              clear n0_ n1_ n2_ n3_ n4_ n5_ n6_ n7_ n8_ n9_ n10_ n11_
              (try clear hb)
              (try clear hb2)
              (try clear hk)
              (try clear hi)
              refine hK.out _ _ ⟨(blk_cell BK459.out 0).trans rfl, (blk_cell BK459.out 1).trans rfl, (blk_cell BK459.out 2).trans rfl, (blk_cell BK459.out 3).trans rfl, (blk_cell BK459.out 4).trans rfl, (blk_cell BK471.out 0).trans rfl, (blk_cell BK471.out 1).trans rfl, (blk_cell BK471.out 2).trans rfl, (blk_cell BK471.out 3).trans rfl, (blk_cell BK471.out 4).trans rfl, (blk_cell BK472.out 0).trans rfl, (blk_cell BK472.out 1).trans rfl, (blk_cell BK472.out 2).trans rfl, (blk_cell BK472.out 3).trans rfl, (blk_cell BK472.out 4).trans rfl⟩ (fun hHeld => ?_)
              clear hK K
              refine norm_ (a' := ?_) ?_ ?_
              rotate_left
              · show Act.put _ (some 23) _ = _
                simp only [Act.put, List.setIfInBounds_toArray, List.set_cons_zero, List.set_cons_succ, i64_w, i32_w]
                rfl
              refine one_ (i := 7) (N := some 26) #[true, true, true, true, true, true, true, true, false, false, false, false, false, false, false, false, false, false, false, false, false, false, false, false, false, false, false, false, false, false, false, false, false, false, false, false, false, false, false, false, false, false, false, false, false, false, false, false, false, false, false, false] rfl rfl (one_of HT_.out (by kernel_rfl)) (by decide) (fun K hK => ?_)
              refine goes_ Try.func23 (by kernel_rfl) rfl #[.agg #[.int .u8 t460, .string t461, .slice Ao234 t462.length co234, .slice Ao235 t465.length co235, .slice Ao236 t468.length co236], .agg #[.int .u8 t448, .string t449, .slice Ao224 t450.length co224, .slice Ao225 t453.length co225, .slice Ao226 t456.length co226]] (by rfl) rfl rfl (by (try simp only [List.map_toArray, List.map_cons, List.map_nil]); first | done | rfl | (simp only [List.length_drop, List.length_take]; rfl)) ?_
              with_reducible refine (value_Same.calls k t460 t461 _ _ t462 _ _ t465 _ _ t468 t448 t449 _ _ t450 _ _ t453 _ _ t456 t474 _ ?side1 ?side2 ?side3 ?side4 ?side5 ?side6 ?side7 ?side8 ?side9 ?side10 ?side11 ?side12 A8.out).mono ?_
              (case side1 => repeat (first | exact (Kd.R_reads' HO464.out).2.2 | (with_reducible refine Kd.C_alloc ?_ _) | (with_reducible refine Kd.C_drewN ?_ _) | (with_reducible refine Kd.C_drew ?_)))
              (case side2 => exact (Kd.R_reads' HO464.out).2.1)
              (case side3 => repeat (first | exact (Kd.R_reads' HO467.out).2.2 | (with_reducible refine Kd.C_alloc ?_ _) | (with_reducible refine Kd.C_drewN ?_ _) | (with_reducible refine Kd.C_drew ?_)))
              (case side4 => exact (Kd.R_reads' HO467.out).2.1)
              (case side5 => repeat (first | exact (Kd.R_reads' HO470.out).2.2 | (with_reducible refine Kd.C_alloc ?_ _) | (with_reducible refine Kd.C_drewN ?_ _) | (with_reducible refine Kd.C_drew ?_)))
              (case side6 => exact (Kd.R_reads' HO470.out).2.1)
              (case side7 => repeat (first | exact (Kd.R_reads' HO452.out).2.2 | (with_reducible refine Kd.C_alloc ?_ _) | (with_reducible refine Kd.C_drewN ?_ _) | (with_reducible refine Kd.C_drew ?_)))
              (case side8 => exact (Kd.R_reads' HO452.out).2.1)
              (case side9 => repeat (first | exact (Kd.R_reads' HO455.out).2.2 | (with_reducible refine Kd.C_alloc ?_ _) | (with_reducible refine Kd.C_drewN ?_ _) | (with_reducible refine Kd.C_drew ?_)))
              (case side10 => exact (Kd.R_reads' HO455.out).2.1)
              (case side11 => repeat (first | exact (Kd.R_reads' HO458.out).2.2 | (with_reducible refine Kd.C_alloc ?_ _) | (with_reducible refine Kd.C_drewN ?_ _) | (with_reducible refine Kd.C_drew ?_)))
              (case side12 => exact (Kd.R_reads' HO458.out).2.1)
              rintro e w248 ⟨rfl, hb⟩
              refine ⟨_, rfl, ?_⟩
              have n0_ := Aside0.mk (Kd.R_below (by (with_reducible repeat (first | apply Kd.R_alloc | apply Kd.R_drewN | apply Kd.R_drew)); exact HO452.out) hb)
              have n1_ := Aside0.mk (Kd.R_below (by (with_reducible repeat (first | apply Kd.R_alloc | apply Kd.R_drewN | apply Kd.R_drew)); exact HO455.out) hb)
              have n2_ := Aside0.mk (Kd.R_below (by (with_reducible repeat (first | apply Kd.R_alloc | apply Kd.R_drewN | apply Kd.R_drew)); exact HO458.out) hb)
              have n3_ := Aside0.mk (Kd.R_below (by (with_reducible repeat (first | apply Kd.R_alloc | apply Kd.R_drewN | apply Kd.R_drew)); exact HO464.out) hb)
              have n4_ := Aside0.mk (Kd.R_below (by (with_reducible repeat (first | apply Kd.R_alloc | apply Kd.R_drewN | apply Kd.R_drew)); exact HO467.out) hb)
              have n5_ := Aside0.mk (Kd.R_below (by (with_reducible repeat (first | apply Kd.R_alloc | apply Kd.R_drewN | apply Kd.R_drew)); exact HO470.out) hb)
              have n6_ := Aside0.mk (blk_below (g := gb445) (o := .cells #[.int .u8 a0_0, .string a0_1, .slice A0_2 l0_2.length c0_2, .slice A0_3 l0_3.length c0_3, .slice A0_4 l0_4.length c0_4] 26 (0, 0)) (by (with_reducible repeat (first | refine blk_drewN ?_ _ | refine blk_drew ?_ | refine blk_alloc ?_ _)); exact BK445.out) hb)
              have n7_ := Aside0.mk (blk_below (g := gb446) (o := .cells #[.int .u8 a1_0, .string a1_1, .slice A1_2 l1_2.length c1_2, .slice A1_3 l1_3.length c1_3, .slice A1_4 l1_4.length c1_4] 26 (0, 0)) (by (with_reducible repeat (first | refine blk_drewN ?_ _ | refine blk_drew ?_ | refine blk_alloc ?_ _)); exact BK446.out) hb)
              have n8_ := Aside0.mk (blk_below (g := gb459) (o := .cells #[.int .u8 t448, .string t449, .slice Ao224 t450.length co224, .slice Ao225 t453.length co225, .slice Ao226 t456.length co226] 26 (0, 0)) (by (with_reducible repeat (first | refine blk_drewN ?_ _ | refine blk_drew ?_ | refine blk_alloc ?_ _)); exact BK459.out) hb)
              have n9_ := Aside0.mk (blk_below (g := gb471) (o := .cells #[.int .u8 t460, .string t461, .slice Ao234 t462.length co234, .slice Ao235 t465.length co235, .slice Ao236 t468.length co236] 26 (0, 0)) (by (with_reducible repeat (first | refine blk_drewN ?_ _ | refine blk_drew ?_ | refine blk_alloc ?_ _)); exact BK471.out) hb)
              have n10_ := Aside0.mk (blk_below (g := gb472) (o := .cells #[.int .u8 ((t448 + 1) % 256), .string t449, .slice Ao224 t450.length co224, .slice Ao225 t453.length co225, .slice Ao226 t456.length co226] 26 (0, 0)) (by (with_reducible repeat (first | refine blk_drewN ?_ _ | refine blk_drew ?_ | refine blk_alloc ?_ _)); exact BK472.out) hb)
              have n11_ := Aside0.mk (below_step (by repeat (first | (with_reducible first | exact HB.out | apply below_alloc | apply pw_below_drewN | apply below_drew1 | refine below_set ?_ GE445.out | refine below_set ?_ GE446.out | refine below_set ?_ GE459.out | refine below_set ?_ GE471.out | refine below_set ?_ GE472.out) | exact HB.out)) hb)
              clear HO452
              clear HO455
              clear HO458
              clear HO464
              clear HO467
              clear HO470
              clear BK445
              clear BK446
              clear BK459
              clear BK471
              clear BK472
              clear HB
              have HO452 := n0_
              have HO455 := n1_
              have HO458 := n2_
              have HO464 := n3_
              have HO467 := n4_
              have HO470 := n5_
              have BK445 := n6_
              have BK446 := n7_
              have BK459 := n8_
              have BK471 := n9_
              have BK472 := n10_
              have HB := n11_
              clear n0_ n1_ n2_ n3_ n4_ n5_ n6_ n7_ n8_ n9_ n10_ n11_
              (try clear hb)
              (try clear hb2)
              (try clear hk)
              (try clear hi)
              refine hK.out _ _ ⟨(blk_cell BK459.out 0).trans rfl, (blk_cell BK459.out 1).trans rfl, (blk_cell BK459.out 2).trans rfl, (blk_cell BK459.out 3).trans rfl, (blk_cell BK459.out 4).trans rfl, (blk_cell BK471.out 0).trans rfl, (blk_cell BK471.out 1).trans rfl, (blk_cell BK471.out 2).trans rfl, (blk_cell BK471.out 3).trans rfl, (blk_cell BK471.out 4).trans rfl, (blk_cell BK472.out 0).trans rfl, (blk_cell BK472.out 1).trans rfl, (blk_cell BK472.out 2).trans rfl, (blk_cell BK472.out 3).trans rfl, (blk_cell BK472.out 4).trans rfl⟩ (fun hHeld => ?_)
              clear hK K
              refine norm_ (a' := ?_) ?_ ?_
              rotate_left
              · show Act.put _ (some 26) _ = _
                simp only [Act.put, List.setIfInBounds_toArray, List.set_cons_zero, List.set_cons_succ, i64_w, i32_w]
                rfl
              refine pure_ (i := 8) (N := some 27) (v := ?_) (a' := ?_) #[true, true, true, true, true, true, true, true, true, false, false, false, false, false, false, false, false, false, false, false, false, false, false, false, false, false, false, false, false, false, false, false, false, false, false, false, false, false, false, false, false, false, false, false, false, false, false, false, false, false, false, false] rfl rfl (any_of HT_.out (by kernel_rfl)) (fun _ _ _ h => h) (Or.inl ⟨by rfl, ?_⟩) ?_ ?_
              rotate_left
              · intro w'
                go_simp
                with_reducible rfl
              rotate_left
              · simp only [Act.put, List.setIfInBounds_toArray, List.set_cons_zero, List.set_cons_succ, i64_w, i32_w]
                rfl
              refine pure_ (i := 9) (N := some 28) (v := ?_) (a' := ?_) #[true, true, true, true, true, true, true, true, true, true, false, false, false, false, false, false, false, false, false, false, false, false, false, false, false, false, false, false, false, false, false, false, false, false, false, false, false, false, false, false, false, false, false, false, false, false, false, false, false, false, false, false] rfl rfl (any_of HT_.out (by kernel_rfl)) (fun _ _ _ h => h) (Or.inl ⟨by rfl, ?_⟩) ?_ ?_
              rotate_left
              · intro w'
                go_simp
                with_reducible rfl
              rotate_left
              · simp only [Act.put, List.setIfInBounds_toArray, List.set_cons_zero, List.set_cons_succ, i64_w, i32_w]
                rfl
              refine pure_ (i := 10) (N := some 29) (v := ?_) (a' := ?_) #[true, true, true, true, true, true, true, true, true, true, true, false, false, false, false, false, false, false, false, false, false, false, false, false, false, false, false, false, false, false, false, false, false, false, false, false, false, false, false, false, false, false, false, false, false, false, false, false, false, false, false, false] rfl rfl (any_of HT_.out (by kernel_rfl)) (fun _ _ _ h => h) (Or.inl ⟨by rfl, ?_⟩) ?_ ?_
              rotate_left
              · intro w'
                go_simp
                with_reducible rfl
              rotate_left
              · simp only [Act.put, List.setIfInBounds_toArray, List.set_cons_zero, List.set_cons_succ, i64_w, i32_w]
                rfl
              refine pure_ (i := 11) (N := some 30) (v := ?_) (a' := ?_) #[true, true, true, true, true, true, true, true, true, true, true, true, false, false, false, false, false, false, false, false, false, false, false, false, false, false, false, false, false, false, false, false, false, false, false, false, false, false, false, false, false, false, false, false, false, false, false, false, false, false, false, false] rfl rfl (any_of HT_.out (by kernel_rfl)) (fun _ _ _ h => h) (Or.inl ⟨by rfl, ?_⟩) ?_ ?_
              rotate_left
              · intro w'
                go_simp
                with_reducible rfl
              rotate_left
              · simp only [Act.put, List.setIfInBounds_toArray, List.set_cons_zero, List.set_cons_succ, i64_w, i32_w]
                rfl
              refine pure_ (i := 13) (N := some 32) (v := ?_) (a' := ?_) #[true, true, true, true, true, true, true, true, true, true, true, true, false, true, false, false, false, false, false, false, false, false, false, false, false, false, false, false, false, false, false, false, false, false, false, false, false, false, false, false, false, false, false, false, false, false, false, false, false, false, false, false] rfl rfl (any_of HT_.out (by kernel_rfl)) (fun _ _ _ h => h) (Or.inl ⟨by rfl, ?_⟩) ?_ ?_
              rotate_left
              · intro w'
                go_simp
                with_reducible rfl
              rotate_left
              · simp only [Act.put, List.setIfInBounds_toArray, List.set_cons_zero, List.set_cons_succ, i64_w, i32_w]
                rfl
              refine take_ (i := 12) (N := some 31) (v := ?_) (a' := ?_) #[true, true, true, true, true, true, true, true, true, true, true, true, true, true, false, false, false, false, false, false, false, false, false, false, false, false, false, false, false, false, false, false, false, false, false, false, false, false, false, false, false, false, false, false, false, false, false, false, false, false, false, false] rfl rfl (take_ofW HT_.out HW_.out (by kernel_rfl)) (fun _ _ _ h => h) (Or.inl ⟨by rfl, ?_⟩) hHeld ?_ ?_
              rotate_left
              · rintro w' ⟨s0, s1, s2, s3, s4, s5, s6, s7, s8, s9, s10, s11, s12, s13, s14⟩
                go_simp
                with_reducible rfl
              rotate_left
              · simp only [Act.put, List.setIfInBounds_toArray, List.set_cons_zero, List.set_cons_succ, i64_w, i32_w]
                rfl
              refine take_ (i := 14) (N := some 33) (v := ?_) (a' := ?_) #[true, true, true, true, true, true, true, true, true, true, true, true, true, true, true, false, false, false, false, false, false, false, false, false, false, false, false, false, false, false, false, false, false, false, false, false, false, false, false, false, false, false, false, false, false, false, false, false, false, false, false, false] rfl rfl (take_ofW HT_.out HW_.out (by kernel_rfl)) (fun _ _ _ h => h) (Or.inl ⟨by rfl, ?_⟩) hHeld ?_ ?_
              rotate_left
              · rintro w' ⟨s0, s1, s2, s3, s4, s5, s6, s7, s8, s9, s10, s11, s12, s13, s14⟩
                go_simp
                with_reducible rfl
              rotate_left
              · simp only [Act.put, List.setIfInBounds_toArray, List.set_cons_zero, List.set_cons_succ, i64_w, i32_w]
                rfl
              refine pure_ (i := 15) (N := some 34) (v := ?_) (a' := ?_) #[true, true, true, true, true, true, true, true, true, true, true, true, true, true, true, true, false, false, false, false, false, false, false, false, false, false, false, false, false, false, false, false, false, false, false, false, false, false, false, false, false, false, false, false, false, false, false, false, false, false, false, false] rfl rfl (any_of HT_.out (by kernel_rfl)) (fun _ _ _ h => h) (Or.inl ⟨by rfl, ?_⟩) ?_ ?_
              rotate_left
              · intro w'
                go_simp
                with_reducible rfl
              rotate_left
              · simp only [Act.put, List.setIfInBounds_toArray, List.set_cons_zero, List.set_cons_succ, i64_w, i32_w]
                rfl
              refine pure_ (i := 16) (N := some 35) (v := ?_) (a' := ?_) #[true, true, true, true, true, true, true, true, true, true, true, true, true, true, true, true, true, false, false, false, false, false, false, false, false, false, false, false, false, false, false, false, false, false, false, false, false, false, false, false, false, false, false, false, false, false, false, false, false, false, false, false] rfl rfl (any_of HT_.out (by kernel_rfl)) (fun _ _ _ h => h) (Or.inl ⟨by rfl, ?_⟩) ?_ ?_
              rotate_left
              · intro w'
                go_simp
                with_reducible rfl
              rotate_left
              · simp only [Act.put, List.setIfInBounds_toArray, List.set_cons_zero, List.set_cons_succ, i64_w, i32_w]
                rfl
              refine take_ (i := 17) (N := some 36) (v := ?_) (a' := ?_) #[true, true, true, true, true, true, true, true, true, true, true, true, true, true, true, true, true, true, false, false, false, false, false, false, false, false, false, false, false, false, false, false, false, false, false, false, false, false, false, false, false, false, false, false, false, false, false, false, false, false, false, false] rfl rfl (take_ofW HT_.out HW_.out (by kernel_rfl)) (fun _ _ _ h => h) (Or.inl ⟨by rfl, ?_⟩) hHeld ?_ ?_
              rotate_left
              · rintro w' ⟨s0, s1, s2, s3, s4, s5, s6, s7, s8, s9, s10, s11, s12, s13, s14⟩
                go_simp
                with_reducible rfl
              rotate_left
              · simp only [Act.put, List.setIfInBounds_toArray, List.set_cons_zero, List.set_cons_succ, i64_w, i32_w]
                rfl
              refine take_ (i := 18) (N := some 37) (v := ?_) (a' := ?_) #[true, true, true, true, true, true, true, true, true, true, true, true, true, true, true, true, true, true, true, false, false, false, false, false, false, false, false, false, false, false, false, false, false, false, false, false, false, false, false, false, false, false, false, false, false, false, false, false, false, false, false, false] rfl rfl (take_ofW HT_.out HW_.out (by kernel_rfl)) (fun _ _ _ h => h) (Or.inl ⟨by rfl, ?_⟩) hHeld ?_ ?_
              rotate_left
              · rintro w' ⟨s0, s1, s2, s3, s4, s5, s6, s7, s8, s9, s10, s11, s12, s13, s14⟩
                go_simp
                with_reducible rfl
              rotate_left
              · simp only [Act.put, List.setIfInBounds_toArray, List.set_cons_zero, List.set_cons_succ, i64_w, i32_w]
                rfl
              refine one_ (i := 19) (N := some 38) #[true, true, true, true, true, true, true, true, true, true, true, true, true, true, true, true, true, true, true, true, false, false, false, false, false, false, false, false, false, false, false, false, false, false, false, false, false, false, false, false, false, false, false, false, false, false, false, false, false, false, false, false] rfl rfl (one_of HT_.out (by kernel_rfl)) (by decide) (fun K hK => ?_)
              refine goes_ Try.func23 (by kernel_rfl) rfl #[.agg #[.int .u8 t448, .string t449, .slice Ao224 t450.length co224, .slice Ao225 t453.length co225, .slice Ao226 t456.length co226], .agg #[.int .u8 t460, .string t461, .slice Ao234 t462.length co234, .slice Ao235 t465.length co235, .slice Ao236 t468.length co236]] (by rfl) rfl rfl (by (try simp only [List.map_toArray, List.map_cons, List.map_nil]); first | done | rfl | (simp only [List.length_drop, List.length_take]; rfl)) ?_
              with_reducible refine (value_Same.calls k t448 t449 _ _ t450 _ _ t453 _ _ t456 t460 t461 _ _ t462 _ _ t465 _ _ t468 false _ ?side1 ?side2 ?side3 ?side4 ?side5 ?side6 ?side7 ?side8 ?side9 ?side10 ?side11 ?side12 A132.out).mono ?_
              (case side1 => repeat (first | exact (Kd.R_reads' HO452.out).2.2 | (with_reducible refine Kd.C_alloc ?_ _) | (with_reducible refine Kd.C_drewN ?_ _) | (with_reducible refine Kd.C_drew ?_)))
              (case side2 => exact (Kd.R_reads' HO452.out).2.1)
              (case side3 => repeat (first | exact (Kd.R_reads' HO455.out).2.2 | (with_reducible refine Kd.C_alloc ?_ _) | (with_reducible refine Kd.C_drewN ?_ _) | (with_reducible refine Kd.C_drew ?_)))
              (case side4 => exact (Kd.R_reads' HO455.out).2.1)
              (case side5 => repeat (first | exact (Kd.R_reads' HO458.out).2.2 | (with_reducible refine Kd.C_alloc ?_ _) | (with_reducible refine Kd.C_drewN ?_ _) | (with_reducible refine Kd.C_drew ?_)))
              (case side6 => exact (Kd.R_reads' HO458.out).2.1)
              (case side7 => repeat (first | exact (Kd.R_reads' HO464.out).2.2 | (with_reducible refine Kd.C_alloc ?_ _) | (with_reducible refine Kd.C_drewN ?_ _) | (with_reducible refine Kd.C_drew ?_)))
              (case side8 => exact (Kd.R_reads' HO464.out).2.1)
              (case side9 => repeat (first | exact (Kd.R_reads' HO467.out).2.2 | (with_reducible refine Kd.C_alloc ?_ _) | (with_reducible refine Kd.C_drewN ?_ _) | (with_reducible refine Kd.C_drew ?_)))
              (case side10 => exact (Kd.R_reads' HO467.out).2.1)
              (case side11 => repeat (first | exact (Kd.R_reads' HO470.out).2.2 | (with_reducible refine Kd.C_alloc ?_ _) | (with_reducible refine Kd.C_drewN ?_ _) | (with_reducible refine Kd.C_drew ?_)))
              (case side12 => exact (Kd.R_reads' HO470.out).2.1)
              rintro e w249 ⟨rfl, hb⟩
              refine ⟨_, rfl, ?_⟩
              have n0_ := Aside0.mk (Kd.R_below (by (with_reducible repeat (first | apply Kd.R_alloc | apply Kd.R_drewN | apply Kd.R_drew)); exact HO452.out) hb)
              have n1_ := Aside0.mk (Kd.R_below (by (with_reducible repeat (first | apply Kd.R_alloc | apply Kd.R_drewN | apply Kd.R_drew)); exact HO455.out) hb)
              have n2_ := Aside0.mk (Kd.R_below (by (with_reducible repeat (first | apply Kd.R_alloc | apply Kd.R_drewN | apply Kd.R_drew)); exact HO458.out) hb)
              have n3_ := Aside0.mk (Kd.R_below (by (with_reducible repeat (first | apply Kd.R_alloc | apply Kd.R_drewN | apply Kd.R_drew)); exact HO464.out) hb)
              have n4_ := Aside0.mk (Kd.R_below (by (with_reducible repeat (first | apply Kd.R_alloc | apply Kd.R_drewN | apply Kd.R_drew)); exact HO467.out) hb)
              have n5_ := Aside0.mk (Kd.R_below (by (with_reducible repeat (first | apply Kd.R_alloc | apply Kd.R_drewN | apply Kd.R_drew)); exact HO470.out) hb)
              have n6_ := Aside0.mk (blk_below (g := gb445) (o := .cells #[.int .u8 a0_0, .string a0_1, .slice A0_2 l0_2.length c0_2, .slice A0_3 l0_3.length c0_3, .slice A0_4 l0_4.length c0_4] 26 (0, 0)) (by (with_reducible repeat (first | refine blk_drewN ?_ _ | refine blk_drew ?_ | refine blk_alloc ?_ _)); exact BK445.out) hb)
              have n7_ := Aside0.mk (blk_below (g := gb446) (o := .cells #[.int .u8 a1_0, .string a1_1, .slice A1_2 l1_2.length c1_2, .slice A1_3 l1_3.length c1_3, .slice A1_4 l1_4.length c1_4] 26 (0, 0)) (by (with_reducible repeat (first | refine blk_drewN ?_ _ | refine blk_drew ?_ | refine blk_alloc ?_ _)); exact BK446.out) hb)
              have n8_ := Aside0.mk (blk_below (g := gb459) (o := .cells #[.int .u8 t448, .string t449, .slice Ao224 t450.length co224, .slice Ao225 t453.length co225, .slice Ao226 t456.length co226] 26 (0, 0)) (by (with_reducible repeat (first | refine blk_drewN ?_ _ | refine blk_drew ?_ | refine blk_alloc ?_ _)); exact BK459.out) hb)
              have n9_ := Aside0.mk (blk_below (g := gb471) (o := .cells #[.int .u8 t460, .string t461, .slice Ao234 t462.length co234, .slice Ao235 t465.length co235, .slice Ao236 t468.length co236] 26 (0, 0)) (by (with_reducible repeat (first | refine blk_drewN ?_ _ | refine blk_drew ?_ | refine blk_alloc ?_ _)); exact BK471.out) hb)
              have n10_ := Aside0.mk (blk_below (g := gb472) (o := .cells #[.int .u8 ((t448 + 1) % 256), .string t449, .slice Ao224 t450.length co224, .slice Ao225 t453.length co225, .slice Ao226 t456.length co226] 26 (0, 0)) (by (with_reducible repeat (first | refine blk_drewN ?_ _ | refine blk_drew ?_ | refine blk_alloc ?_ _)); exact BK472.out) hb)
              have n11_ := Aside0.mk (below_step (by repeat (first | (with_reducible first | exact HB.out | apply below_alloc | apply pw_below_drewN | apply below_drew1 | refine below_set ?_ GE445.out | refine below_set ?_ GE446.out | refine below_set ?_ GE459.out | refine below_set ?_ GE471.out | refine below_set ?_ GE472.out) | exact HB.out)) hb)
              clear HO452
              clear HO455
              clear HO458
              clear HO464
              clear HO467
              clear HO470
              clear BK445
              clear BK446
              clear BK459
              clear BK471
              clear BK472
              clear HB
              have HO452 := n0_
              have HO455 := n1_
              have HO458 := n2_
              have HO464 := n3_
              have HO467 := n4_
              have HO470 := n5_
              have BK445 := n6_
              have BK446 := n7_
              have BK459 := n8_
              have BK471 := n9_
              have BK472 := n10_
              have HB := n11_
              clear n0_ n1_ n2_ n3_ n4_ n5_ n6_ n7_ n8_ n9_ n10_ n11_
              (try clear hb)
              (try clear hb2)
              (try clear hk)
              (try clear hi)
              refine hK.out _ _ ⟨(blk_cell BK459.out 0).trans rfl, (blk_cell BK459.out 1).trans rfl, (blk_cell BK459.out 2).trans rfl, (blk_cell BK459.out 3).trans rfl, (blk_cell BK459.out 4).trans rfl, (blk_cell BK471.out 0).trans rfl, (blk_cell BK471.out 1).trans rfl, (blk_cell BK471.out 2).trans rfl, (blk_cell BK471.out 3).trans rfl, (blk_cell BK471.out 4).trans rfl, (blk_cell BK472.out 0).trans rfl, (blk_cell BK472.out 1).trans rfl, (blk_cell BK472.out 2).trans rfl, (blk_cell BK472.out 3).trans rfl, (blk_cell BK472.out 4).trans rfl⟩ (fun hHeld => ?_)
              clear hK K
              refine norm_ (a' := ?_) ?_ ?_
              rotate_left
              · show Act.put _ (some 38) _ = _
                simp only [Act.put, List.setIfInBounds_toArray, List.set_cons_zero, List.set_cons_succ, i64_w, i32_w]
                rfl
              refine pure_ (i := 20) (N := some 39) (v := ?_) (a' := ?_) #[true, true, true, true, true, true, true, true, true, true, true, true, true, true, true, true, true, true, true, true, true, false, false, false, false, false, false, false, false, false, false, false, false, false, false, false, false, false, false, false, false, false, false, false, false, false, false, false, false, false, false, false] rfl rfl (any_of HT_.out (by kernel_rfl)) (fun _ _ _ h => h) (Or.inl ⟨by rfl, ?_⟩) ?_ ?_
              rotate_left
              · intro w'
                go_simp
                with_reducible rfl
              rotate_left
              · simp only [Act.put, List.setIfInBounds_toArray, List.set_cons_zero, List.set_cons_succ, i64_w, i32_w]
                rfl
              refine pure_ (i := 21) (N := some 40) (v := ?_) (a' := ?_) #[true, true, true, true, true, true, true, true, true, true, true, true, true, true, true, true, true, true, true, true, true, true, false, false, false, false, false, false, false, false, false, false, false, false, false, false, false, false, false, false, false, false, false, false, false, false, false, false, false, false, false, false] rfl rfl (any_of HT_.out (by kernel_rfl)) (fun _ _ _ h => h) (Or.inl ⟨by rfl, ?_⟩) ?_ ?_
              rotate_left
              · intro w'
                go_simp
                with_reducible rfl
              rotate_left
              · simp only [Act.put, List.setIfInBounds_toArray, List.set_cons_zero, List.set_cons_succ, i64_w, i32_w]
                rfl
              refine pure_ (i := 22) (N := some 41) (v := ?_) (a' := ?_) #[true, true, true, true, true, true, true, true, true, true, true, true, true, true, true, true, true, true, true, true, true, true, true, false, false, false, false, false, false, false, false, false, false, false, false, false, false, false, false, false, false, false, false, false, false, false, false, false, false, false, false, false] rfl rfl (any_of HT_.out (by kernel_rfl)) (fun _ _ _ h => h) (Or.inl ⟨by rfl, ?_⟩) ?_ ?_
              rotate_left
              · intro w'
                go_simp
                with_reducible rfl
              rotate_left
              · simp only [Act.put, List.setIfInBounds_toArray, List.set_cons_zero, List.set_cons_succ, i64_w, i32_w]
                rfl
              refine pure_ (i := 23) (N := some 42) (v := ?_) (a' := ?_) #[true, true, true, true, true, true, true, true, true, true, true, true, true, true, true, true, true, true, true, true, true, true, true, true, false, false, false, false, false, false, false, false, false, false, false, false, false, false, false, false, false, false, false, false, false, false, false, false, false, false, false, false] rfl rfl (any_of HT_.out (by kernel_rfl)) (fun _ _ _ h => h) (Or.inl ⟨by rfl, ?_⟩) ?_ ?_
              rotate_left
              · intro w'
                go_simp
                with_reducible rfl
              rotate_left
              · simp only [Act.put, List.setIfInBounds_toArray, List.set_cons_zero, List.set_cons_succ, i64_w, i32_w]
                rfl
              refine take_ (i := 24) (N := some 43) (v := ?_) (a' := ?_) #[true, true, true, true, true, true, true, true, true, true, true, true, true, true, true, true, true, true, true, true, true, true, true, true, true, false, false, false, false, false, false, false, false, false, false, false, false, false, false, false, false, false, false, false, false, false, false, false, false, false, false, false] rfl rfl (take_ofW HT_.out HW_.out (by kernel_rfl)) (fun _ _ _ h => h) (Or.inl ⟨by rfl, ?_⟩) hHeld ?_ ?_
              rotate_left
              · rintro w' ⟨s0, s1, s2, s3, s4, s5, s6, s7, s8, s9, s10, s11, s12, s13, s14⟩
                go_simp
                with_reducible rfl
              rotate_left
              · simp only [Act.put, List.setIfInBounds_toArray, List.set_cons_zero, List.set_cons_succ, i64_w, i32_w]
                rfl
              refine take_ (i := 25) (N := some 44) (v := ?_) (a' := ?_) #[true, true, true, true, true, true, true, true, true, true, true, true, true, true, true, true, true, true, true, true, true, true, true, true, true, true, false, false, false, false, false, false, false, false, false, false, false, false, false, false, false, false, false, false, false, false, false, false, false, false, false, false] rfl rfl (take_ofW HT_.out HW_.out (by kernel_rfl)) (fun _ _ _ h => h) (Or.inl ⟨by rfl, ?_⟩) hHeld ?_ ?_
              rotate_left
              · rintro w' ⟨s0, s1, s2, s3, s4, s5, s6, s7, s8, s9, s10, s11, s12, s13, s14⟩
                go_simp
                with_reducible rfl
              rotate_left
              · simp only [Act.put, List.setIfInBounds_toArray, List.set_cons_zero, List.set_cons_succ, i64_w, i32_w]
                rfl
              refine one_ (i := 26) (N := some 45) #[true, true, true, true, true, true, true, true, true, true, true, true, true, true, true, true, true, true, true, true, true, true, true, true, true, true, true, false, false, false, false, false, false, false, false, false, false, false, false, false, false, false, false, false, false, false, false, false, false, false, false, false] rfl rfl (one_of HT_.out (by kernel_rfl)) (by decide) (fun K hK => ?_)
              refine goes_ Try.func23 (by kernel_rfl) rfl #[.agg #[.int .u8 t448, .string t449, .slice Ao224 t450.length co224, .slice Ao225 t453.length co225, .slice Ao226 t456.length co226], .agg #[.int .u8 ((t448 + 1) % 256), .string t449, .slice Ao224 t450.length co224, .slice Ao225 t453.length co225, .slice Ao226 t456.length co226]] (by rfl) rfl rfl (by (try simp only [List.map_toArray, List.map_cons, List.map_nil]); first | done | rfl | (simp only [List.length_drop, List.length_take]; rfl)) ?_
              with_reducible refine (value_Same.calls k t448 t449 _ _ t450 _ _ t453 _ _ t456 ((t448 + 1) % 256) t449 _ _ t450 _ _ t453 _ _ t456 false _ ?side1 ?side2 ?side3 ?side4 ?side5 ?side6 ?side7 ?side8 ?side9 ?side10 ?side11 ?side12 A170.out).mono ?_
              (case side1 => repeat (first | exact (Kd.R_reads' HO452.out).2.2 | (with_reducible refine Kd.C_alloc ?_ _) | (with_reducible refine Kd.C_drewN ?_ _) | (with_reducible refine Kd.C_drew ?_)))
              (case side2 => exact (Kd.R_reads' HO452.out).2.1)
              (case side3 => repeat (first | exact (Kd.R_reads' HO455.out).2.2 | (with_reducible refine Kd.C_alloc ?_ _) | (with_reducible refine Kd.C_drewN ?_ _) | (with_reducible refine Kd.C_drew ?_)))
              (case side4 => exact (Kd.R_reads' HO455.out).2.1)
              (case side5 => repeat (first | exact (Kd.R_reads' HO458.out).2.2 | (with_reducible refine Kd.C_alloc ?_ _) | (with_reducible refine Kd.C_drewN ?_ _) | (with_reducible refine Kd.C_drew ?_)))
              (case side6 => exact (Kd.R_reads' HO458.out).2.1)
              (case side7 => repeat (first | exact (Kd.R_reads' HO452.out).2.2 | (with_reducible refine Kd.C_alloc ?_ _) | (with_reducible refine Kd.C_drewN ?_ _) | (with_reducible refine Kd.C_drew ?_)))
              (case side8 => exact (Kd.R_reads' HO452.out).2.1)
              (case side9 => repeat (first | exact (Kd.R_reads' HO455.out).2.2 | (with_reducible refine Kd.C_alloc ?_ _) | (with_reducible refine Kd.C_drewN ?_ _) | (with_reducible refine Kd.C_drew ?_)))
              (case side10 => exact (Kd.R_reads' HO455.out).2.1)
              (case side11 => repeat (first | exact (Kd.R_reads' HO458.out).2.2 | (with_reducible refine Kd.C_alloc ?_ _) | (with_reducible refine Kd.C_drewN ?_ _) | (with_reducible refine Kd.C_drew ?_)))
              (case side12 => exact (Kd.R_reads' HO458.out).2.1)
              rintro e w250 ⟨rfl, hb⟩
              refine ⟨_, rfl, ?_⟩
              have n0_ := Aside0.mk (Kd.R_below (by (with_reducible repeat (first | apply Kd.R_alloc | apply Kd.R_drewN | apply Kd.R_drew)); exact HO452.out) hb)
              have n1_ := Aside0.mk (Kd.R_below (by (with_reducible repeat (first | apply Kd.R_alloc | apply Kd.R_drewN | apply Kd.R_drew)); exact HO455.out) hb)
              have n2_ := Aside0.mk (Kd.R_below (by (with_reducible repeat (first | apply Kd.R_alloc | apply Kd.R_drewN | apply Kd.R_drew)); exact HO458.out) hb)
              have n3_ := Aside0.mk (Kd.R_below (by (with_reducible repeat (first | apply Kd.R_alloc | apply Kd.R_drewN | apply Kd.R_drew)); exact HO464.out) hb)
              have n4_ := Aside0.mk (Kd.R_below (by (with_reducible repeat (first | apply Kd.R_alloc | apply Kd.R_drewN | apply Kd.R_drew)); exact HO467.out) hb)
              have n5_ := Aside0.mk (Kd.R_below (by (with_reducible repeat (first | apply Kd.R_alloc | apply Kd.R_drewN | apply Kd.R_drew)); exact HO470.out) hb)
              have n6_ := Aside0.mk (blk_below (g := gb445) (o := .cells #[.int .u8 a0_0, .string a0_1, .slice A0_2 l0_2.length c0_2, .slice A0_3 l0_3.length c0_3, .slice A0_4 l0_4.length c0_4] 26 (0, 0)) (by (with_reducible repeat (first | refine blk_drewN ?_ _ | refine blk_drew ?_ | refine blk_alloc ?_ _)); exact BK445.out) hb)
              have n7_ := Aside0.mk (blk_below (g := gb446) (o := .cells #[.int .u8 a1_0, .string a1_1, .slice A1_2 l1_2.length c1_2, .slice A1_3 l1_3.length c1_3, .slice A1_4 l1_4.length c1_4] 26 (0, 0)) (by (with_reducible repeat (first | refine blk_drewN ?_ _ | refine blk_drew ?_ | refine blk_alloc ?_ _)); exact BK446.out) hb)
              have n8_ := Aside0.mk (blk_below (g := gb459) (o := .cells #[.int .u8 t448, .string t449, .slice Ao224 t450.length co224, .slice Ao225 t453.length co225, .slice Ao226 t456.length co226] 26 (0, 0)) (by (with_reducible repeat (first | refine blk_drewN ?_ _ | refine blk_drew ?_ | refine blk_alloc ?_ _)); exact BK459.out) hb)
              have n9_ := Aside0.mk (blk_below (g := gb471) (o := .cells #[.int .u8 t460, .string t461, .slice Ao234 t462.length co234, .slice Ao235 t465.length co235, .slice Ao236 t468.length co236] 26 (0, 0)) (by (with_reducible repeat (first | refine blk_drewN ?_ _ | refine blk_drew ?_ | refine blk_alloc ?_ _)); exact BK471.out) hb)
              have n10_ := Aside0.mk (blk_below (g := gb472) (o := .cells #[.int .u8 ((t448 + 1) % 256), .string t449, .slice Ao224 t450.length co224, .slice Ao225 t453.length co225, .slice Ao226 t456.length co226] 26 (0, 0)) (by (with_reducible repeat (first | refine blk_drewN ?_ _ | refine blk_drew ?_ | refine blk_alloc ?_ _)); exact BK472.out) hb)
              have n11_ := Aside0.mk (below_step (by repeat (first | (with_reducible first | exact HB.out | apply below_alloc | apply pw_below_drewN | apply below_drew1 | refine below_set ?_ GE445.out | refine below_set ?_ GE446.out | refine below_set ?_ GE459.out | refine below_set ?_ GE471.out | refine below_set ?_ GE472.out) | exact HB.out)) hb)
              clear HO452
              clear HO455
              clear HO458
              clear HO464
              clear HO467
              clear HO470
              clear BK445
              clear BK446
              clear BK459
              clear BK471
              clear BK472
              clear HB
              have HO452 := n0_
              have HO455 := n1_
              have HO458 := n2_
              have HO464 := n3_
              have HO467 := n4_
              have HO470 := n5_
              have BK445 := n6_
              have BK446 := n7_
              have BK459 := n8_
              have BK471 := n9_
              have BK472 := n10_
              have HB := n11_
              clear n0_ n1_ n2_ n3_ n4_ n5_ n6_ n7_ n8_ n9_ n10_ n11_
              (try clear hb)
              (try clear hb2)
              (try clear hk)
              (try clear hi)
              refine hK.out _ _ ⟨(blk_cell BK459.out 0).trans rfl, (blk_cell BK459.out 1).trans rfl, (blk_cell BK459.out 2).trans rfl, (blk_cell BK459.out 3).trans rfl, (blk_cell BK459.out 4).trans rfl, (blk_cell BK471.out 0).trans rfl, (blk_cell BK471.out 1).trans rfl, (blk_cell BK471.out 2).trans rfl, (blk_cell BK471.out 3).trans rfl, (blk_cell BK471.out 4).trans rfl, (blk_cell BK472.out 0).trans rfl, (blk_cell BK472.out 1).trans rfl, (blk_cell BK472.out 2).trans rfl, (blk_cell BK472.out 3).trans rfl, (blk_cell BK472.out 4).trans rfl⟩ (fun hHeld => ?_)
              clear hK K
              refine norm_ (a' := ?_) ?_ ?_
              rotate_left
              · show Act.put _ (some 45) _ = _
                simp only [Act.put, List.setIfInBounds_toArray, List.set_cons_zero, List.set_cons_succ, i64_w, i32_w]
                rfl
              refine pure_ (i := 27) (N := some 46) (v := ?_) (a' := ?_) #[true, true, true, true, true, true, true, true, true, true, true, true, true, true, true, true, true, true, true, true, true, true, true, true, true, true, true, true, false, false, false, false, false, false, false, false, false, false, false, false, false, false, false, false, false, false, false, false, false, false, false, false] rfl rfl (any_of HT_.out (by kernel_rfl)) (fun _ _ _ h => h) (Or.inl ⟨by rfl, ?_⟩) ?_ ?_
              rotate_left
              · intro w'
                go_simp
                with_reducible rfl
              rotate_left
              · simp only [Act.put, List.setIfInBounds_toArray, List.set_cons_zero, List.set_cons_succ, i64_w, i32_w]
                rfl
              refine pure_ (i := 28) (N := some 47) (v := ?_) (a' := ?_) #[true, true, true, true, true, true, true, true, true, true, true, true, true, true, true, true, true, true, true, true, true, true, true, true, true, true, true, true, true, false, false, false, false, false, false, false, false, false, false, false, false, false, false, false, false, false, false, false, false, false, false, false] rfl rfl (any_of HT_.out (by kernel_rfl)) (fun _ _ _ h => h) (Or.inl ⟨by rfl, ?_⟩) ?_ ?_
              rotate_left
              · intro w'
                go_simp
                with_reducible rfl
              rotate_left
              · simp only [Act.put, List.setIfInBounds_toArray, List.set_cons_zero, List.set_cons_succ, i64_w, i32_w]
                rfl
              refine pure_ (i := 29) (N := some 48) (v := ?_) (a' := ?_) #[true, true, true, true, true, true, true, true, true, true, true, true, true, true, true, true, true, true, true, true, true, true, true, true, true, true, true, true, true, true, false, false, false, false, false, false, false, false, false, false, false, false, false, false, false, false, false, false, false, false, false, false] rfl rfl (any_of HT_.out (by kernel_rfl)) (fun _ _ _ h => h) (Or.inl ⟨by rfl, ?_⟩) ?_ ?_
              rotate_left
              · intro w'
                go_simp
                with_reducible rfl
              rotate_left
              · simp only [Act.put, List.setIfInBounds_toArray, List.set_cons_zero, List.set_cons_succ, i64_w, i32_w]
                rfl
              refine take_ (i := 30) (N := some 49) (v := ?_) (a' := ?_) #[true, true, true, true, true, true, true, true, true, true, true, true, true, true, true, true, true, true, true, true, true, true, true, true, true, true, true, true, true, true, true, false, false, false, false, false, false, false, false, false, false, false, false, false, false, false, false, false, false, false, false, false] rfl rfl (take_ofW HT_.out HW_.out (by kernel_rfl)) (fun _ _ _ h => h) (Or.inl ⟨by rfl, ?_⟩) hHeld ?_ ?_
              rotate_left
              · rintro w' ⟨s0, s1, s2, s3, s4, s5, s6, s7, s8, s9, s10, s11, s12, s13, s14⟩
                go_simp
                with_reducible rfl
              rotate_left
              · simp only [Act.put, List.setIfInBounds_toArray, List.set_cons_zero, List.set_cons_succ, i64_w, i32_w]
                rfl
              refine take_ (i := 33) (N := some 52) (v := ?_) (a' := ?_) #[true, true, true, true, true, true, true, true, true, true, true, true, true, true, true, true, true, true, true, true, true, true, true, true, true, true, true, true, true, true, true, false, false, true, false, false, false, false, false, false, false, false, false, false, false, false, false, false, false, false, false, false] rfl rfl (take_ofW HT_.out HW_.out (by kernel_rfl)) (fun _ _ _ h => h) (Or.inl ⟨by rfl, ?_⟩) hHeld ?_ ?_
              rotate_left
              · rintro w' ⟨s0, s1, s2, s3, s4, s5, s6, s7, s8, s9, s10, s11, s12, s13, s14⟩
                go_simp
                with_reducible rfl
              rotate_left
              · simp only [Act.put, List.setIfInBounds_toArray, List.set_cons_zero, List.set_cons_succ, i64_w, i32_w]
                rfl
              refine one_ (i := 31) (N := some 50) #[true, true, true, true, true, true, true, true, true, true, true, true, true, true, true, true, true, true, true, true, true, true, true, true, true, true, true, true, true, true, true, true, false, true, false, false, false, false, false, false, false, false, false, false, false, false, false, false, false, false, false, false] rfl rfl (one_of HT_.out (by kernel_rfl)) (by decide) (fun K hK => ?_)
              refine goes_ Try.func45 (by kernel_rfl) rfl #[.agg #[.int .u8 t448, .string t449, .slice Ao224 t450.length co224, .slice Ao225 t453.length co225, .slice Ao226 t456.length co226]] (by rfl) rfl rfl (by (try simp only [List.map_toArray, List.map_cons, List.map_nil]); first | done | rfl | (simp only [List.length_drop, List.length_take]; rfl)) ?_
              with_reducible refine (value_Type.calls t448 t449 _ _ t450 _ _ t453 _ _ t456 t482 _ ?side1 ?side2 ?side3 ?side4 ?side5 ?side6 A209.out).mono ?_
              (case side1 => repeat (first | exact (Kd.R_reads' HO452.out).2.2 | (with_reducible refine Kd.C_alloc ?_ _) | (with_reducible refine Kd.C_drewN ?_ _) | (with_reducible refine Kd.C_drew ?_)))
              (case side2 => exact (Kd.R_reads' HO452.out).2.1)
              (case side3 => repeat (first | exact (Kd.R_reads' HO455.out).2.2 | (with_reducible refine Kd.C_alloc ?_ _) | (with_reducible refine Kd.C_drewN ?_ _) | (with_reducible refine Kd.C_drew ?_)))
              (case side4 => exact (Kd.R_reads' HO455.out).2.1)
              (case side5 => repeat (first | exact (Kd.R_reads' HO458.out).2.2 | (with_reducible refine Kd.C_alloc ?_ _) | (with_reducible refine Kd.C_drewN ?_ _) | (with_reducible refine Kd.C_drew ?_)))
              (case side6 => exact (Kd.R_reads' HO458.out).2.1)
              rintro e w251 ⟨rfl, hb⟩
              refine ⟨_, rfl, ?_⟩
              have n0_ := Aside0.mk (Kd.R_below (by (with_reducible repeat (first | apply Kd.R_alloc | apply Kd.R_drewN | apply Kd.R_drew)); exact HO452.out) hb)
              have n1_ := Aside0.mk (Kd.R_below (by (with_reducible repeat (first | apply Kd.R_alloc | apply Kd.R_drewN | apply Kd.R_drew)); exact HO455.out) hb)
              have n2_ := Aside0.mk (Kd.R_below (by (with_reducible repeat (first | apply Kd.R_alloc | apply Kd.R_drewN | apply Kd.R_drew)); exact HO458.out) hb)
              have n3_ := Aside0.mk (Kd.R_below (by (with_reducible repeat (first | apply Kd.R_alloc | apply Kd.R_drewN | apply Kd.R_drew)); exact HO464.out) hb)
              have n4_ := Aside0.mk (Kd.R_below (by (with_reducible repeat (first | apply Kd.R_alloc | apply Kd.R_drewN | apply Kd.R_drew)); exact HO467.out) hb)
              have n5_ := Aside0.mk (Kd.R_below (by (with_reducible repeat (first | apply Kd.R_alloc | apply Kd.R_drewN | apply Kd.R_drew)); exact HO470.out) hb)
              have n6_ := Aside0.mk (blk_below (g := gb445) (o := .cells #[.int .u8 a0_0, .string a0_1, .slice A0_2 l0_2.length c0_2, .slice A0_3 l0_3.length c0_3, .slice A0_4 l0_4.length c0_4] 26 (0, 0)) (by (with_reducible repeat (first | refine blk_drewN ?_ _ | refine blk_drew ?_ | refine blk_alloc ?_ _)); exact BK445.out) hb)
              have n7_ := Aside0.mk (blk_below (g := gb446) (o := .cells #[.int .u8 a1_0, .string a1_1, .slice A1_2 l1_2.length c1_2, .slice A1_3 l1_3.length c1_3, .slice A1_4 l1_4.length c1_4] 26 (0, 0)) (by (with_reducible repeat (first | refine blk_drewN ?_ _ | refine blk_drew ?_ | refine blk_alloc ?_ _)); exact BK446.out) hb)
              have n8_ := Aside0.mk (blk_below (g := gb459) (o := .cells #[.int .u8 t448, .string t449, .slice Ao224 t450.length co224, .slice Ao225 t453.length co225, .slice Ao226 t456.length co226] 26 (0, 0)) (by (with_reducible repeat (first | refine blk_drewN ?_ _ | refine blk_drew ?_ | refine blk_alloc ?_ _)); exact BK459.out) hb)
              have n9_ := Aside0.mk (blk_below (g := gb471) (o := .cells #[.int .u8 t460, .string t461, .slice Ao234 t462.length co234, .slice Ao235 t465.length co235, .slice Ao236 t468.length co236] 26 (0, 0)) (by (with_reducible repeat (first | refine blk_drewN ?_ _ | refine blk_drew ?_ | refine blk_alloc ?_ _)); exact BK471.out) hb)
              have n10_ := Aside0.mk (blk_below (g := gb472) (o := .cells #[.int .u8 ((t448 + 1) % 256), .string t449, .slice Ao224 t450.length co224, .slice Ao225 t453.length co225, .slice Ao226 t456.length co226] 26 (0, 0)) (by (with_reducible repeat (first | refine blk_drewN ?_ _ | refine blk_drew ?_ | refine blk_alloc ?_ _)); exact BK472.out) hb)
              have n11_ := Aside0.mk (below_step (by repeat (first | (with_reducible first | exact HB.out | apply below_alloc | apply pw_below_drewN | apply below_drew1 | refine below_set ?_ GE445.out | refine below_set ?_ GE446.out | refine below_set ?_ GE459.out | refine below_set ?_ GE471.out | refine below_set ?_ GE472.out) | exact HB.out)) hb)
              clear HO452
              clear HO455
              clear HO458
              clear HO464
              clear HO467
              clear HO470
              clear BK445
              clear BK446
              clear BK459
              clear BK471
              clear BK472
              clear HB
              have HO452 := n0_
              have HO455 := n1_
              have HO458 := n2_
              have HO464 := n3_
              have HO467 := n4_
              have HO470 := n5_
              have BK445 := n6_
              have BK446 := n7_
              have BK459 := n8_
              have BK471 := n9_
              have BK472 := n10_
              have HB := n11_
              clear n0_ n1_ n2_ n3_ n4_ n5_ n6_ n7_ n8_ n9_ n10_ n11_
              (try clear hb)
              (try clear hb2)
              (try clear hk)
              (try clear hi)
              refine hK.out _ _ ⟨(blk_cell BK459.out 0).trans rfl, (blk_cell BK459.out 1).trans rfl, (blk_cell BK459.out 2).trans rfl, (blk_cell BK459.out 3).trans rfl, (blk_cell BK459.out 4).trans rfl, (blk_cell BK471.out 0).trans rfl, (blk_cell BK471.out 1).trans rfl, (blk_cell BK471.out 2).trans rfl, (blk_cell BK471.out 3).trans rfl, (blk_cell BK471.out 4).trans rfl, (blk_cell BK472.out 0).trans rfl, (blk_cell BK472.out 1).trans rfl, (blk_cell BK472.out 2).trans rfl, (blk_cell BK472.out 3).trans rfl, (blk_cell BK472.out 4).trans rfl⟩ (fun hHeld => ?_)
              clear hK K
              refine norm_ (a' := ?_) ?_ ?_
              rotate_left
              · show Act.put _ (some 50) _ = _
                simp only [Act.put, List.setIfInBounds_toArray, List.set_cons_zero, List.set_cons_succ, i64_w, i32_w]
                rfl
              refine pure_ (i := 32) (N := some 51) (v := ?_) (a' := ?_) #[true, true, true, true, true, true, true, true, true, true, true, true, true, true, true, true, true, true, true, true, true, true, true, true, true, true, true, true, true, true, true, true, true, true, false, false, false, false, false, false, false, false, false, false, false, false, false, false, false, false, false, false] rfl rfl (any_of HT_.out (by kernel_rfl)) (fun _ _ _ h => h) (Or.inl ⟨by rfl, ?_⟩) ?_ ?_
              rotate_left
              · intro w'
                go_simp
                with_reducible rfl
              rotate_left
              · simp only [Act.put, List.setIfInBounds_toArray, List.set_cons_zero, List.set_cons_succ, i64_w, i32_w]
                rfl
              refine one_ (i := 34) (N := some 53) #[true, true, true, true, true, true, true, true, true, true, true, true, true, true, true, true, true, true, true, true, true, true, true, true, true, true, true, true, true, true, true, true, true, true, true, false, false, false, false, false, false, false, false, false, false, false, false, false, false, false, false, false] rfl rfl (one_of HT_.out (by kernel_rfl)) (by decide) (fun K hK => ?_)
              refine goes_ Try.func43 (by kernel_rfl) rfl #[.agg #[.int .u8 t448, .string t449, .slice Ao224 t450.length co224, .slice Ao225 t453.length co225, .slice Ao226 t456.length co226]] (by rfl) rfl rfl (by (try simp only [List.map_toArray, List.map_cons, List.map_nil]); first | done | rfl | (simp only [List.length_drop, List.length_take]; rfl)) ?_
              with_reducible refine (value_Size.calls k t448 t449 _ _ t450 _ _ t453 _ _ t456 t483 _ ?side1 ?side2 ?side3 ?side4 ?side5 ?side6 A210.out).mono ?_
              (case side1 => repeat (first | exact (Kd.R_reads' HO452.out).2.2 | (with_reducible refine Kd.C_alloc ?_ _) | (with_reducible refine Kd.C_drewN ?_ _) | (with_reducible refine Kd.C_drew ?_)))
              (case side2 => exact (Kd.R_reads' HO452.out).2.1)
              (case side3 => repeat (first | exact (Kd.R_reads' HO455.out).2.2 | (with_reducible refine Kd.C_alloc ?_ _) | (with_reducible refine Kd.C_drewN ?_ _) | (with_reducible refine Kd.C_drew ?_)))
              (case side4 => exact (Kd.R_reads' HO455.out).2.1)
              (case side5 => repeat (first | exact (Kd.R_reads' HO458.out).2.2 | (with_reducible refine Kd.C_alloc ?_ _) | (with_reducible refine Kd.C_drewN ?_ _) | (with_reducible refine Kd.C_drew ?_)))
              (case side6 => exact (Kd.R_reads' HO458.out).2.1)
              rintro e w252 ⟨rfl, hb⟩
              refine ⟨_, rfl, ?_⟩
              have n0_ := Aside0.mk (Kd.R_below (by (with_reducible repeat (first | apply Kd.R_alloc | apply Kd.R_drewN | apply Kd.R_drew)); exact HO452.out) hb)
              have n1_ := Aside0.mk (Kd.R_below (by (with_reducible repeat (first | apply Kd.R_alloc | apply Kd.R_drewN | apply Kd.R_drew)); exact HO455.out) hb)
              have n2_ := Aside0.mk (Kd.R_below (by (with_reducible repeat (first | apply Kd.R_alloc | apply Kd.R_drewN | apply Kd.R_drew)); exact HO458.out) hb)
              have n3_ := Aside0.mk (Kd.R_below (by (with_reducible repeat (first | apply Kd.R_alloc | apply Kd.R_drewN | apply Kd.R_drew)); exact HO464.out) hb)
              have n4_ := Aside0.mk (Kd.R_below (by (with_reducible repeat (first | apply Kd.R_alloc | apply Kd.R_drewN | apply Kd.R_drew)); exact HO467.out) hb)
              have n5_ := Aside0.mk (Kd.R_below (by (with_reducible repeat (first | apply Kd.R_alloc | apply Kd.R_drewN | apply Kd.R_drew)); exact HO470.out) hb)
              have n6_ := Aside0.mk (blk_below (g := gb445) (o := .cells #[.int .u8 a0_0, .string a0_1, .slice A0_2 l0_2.length c0_2, .slice A0_3 l0_3.length c0_3, .slice A0_4 l0_4.length c0_4] 26 (0, 0)) (by (with_reducible repeat (first | refine blk_drewN ?_ _ | refine blk_drew ?_ | refine blk_alloc ?_ _)); exact BK445.out) hb)
              have n7_ := Aside0.mk (blk_below (g := gb446) (o := .cells #[.int .u8 a1_0, .string a1_1, .slice A1_2 l1_2.length c1_2, .slice A1_3 l1_3.length c1_3, .slice A1_4 l1_4.length c1_4] 26 (0, 0)) (by (with_reducible repeat (first | refine blk_drewN ?_ _ | refine blk_drew ?_ | refine blk_alloc ?_ _)); exact BK446.out) hb)
              have n8_ := Aside0.mk (blk_below (g := gb459) (o := .cells #[.int .u8 t448, .string t449, .slice Ao224 t450.length co224, .slice Ao225 t453.length co225, .slice Ao226 t456.length co226] 26 (0, 0)) (by (with_reducible repeat (first | refine blk_drewN ?_ _ | refine blk_drew ?_ | refine blk_alloc ?_ _)); exact BK459.out) hb)
              have n9_ := Aside0.mk (blk_below (g := gb471) (o := .cells #[.int .u8 t460, .string t461, .slice Ao234 t462.length co234, .slice Ao235 t465.length co235, .slice Ao236 t468.length co236] 26 (0, 0)) (by (with_reducible repeat (first | refine blk_drewN ?_ _ | refine blk_drew ?_ | refine blk_alloc ?_ _)); exact BK471.out) hb)
              have n10_ := Aside0.mk (blk_below (g := gb472) (o := .cells #[.int .u8 ((t448 + 1) % 256), .string t449, .slice Ao224 t450.length co224, .slice Ao225 t453.length co225, .slice Ao226 t456.length co226] 26 (0, 0)) (by (with_reducible repeat (first | refine blk_drewN ?_ _ | refine blk_drew ?_ | refine blk_alloc ?_ _)); exact BK472.out) hb)
              have n11_ := Aside0.mk (below_step (by repeat (first | (with_reducible first | exact HB.out | apply below_alloc | apply pw_below_drewN | apply below_drew1 | refine below_set ?_ GE445.out | refine below_set ?_ GE446.out | refine below_set ?_ GE459.out | refine below_set ?_ GE471.out | refine below_set ?_ GE472.out) | exact HB.out)) hb)
              clear HO452
              clear HO455
              clear HO458
              clear HO464
              clear HO467
              clear HO470
              clear BK445
              clear BK446
              clear BK459
              clear BK471
              clear BK472
              clear HB
              have HO452 := n0_
              have HO455 := n1_
              have HO458 := n2_
              have HO464 := n3_
              have HO467 := n4_
              have HO470 := n5_
              have BK445 := n6_
              have BK446 := n7_
              have BK459 := n8_
              have BK471 := n9_
              have BK472 := n10_
              have HB := n11_
              clear n0_ n1_ n2_ n3_ n4_ n5_ n6_ n7_ n8_ n9_ n10_ n11_
              (try clear hb)
              (try clear hb2)
              (try clear hk)
              (try clear hi)
              refine hK.out _ _ ⟨(blk_cell BK459.out 0).trans rfl, (blk_cell BK459.out 1).trans rfl, (blk_cell BK459.out 2).trans rfl, (blk_cell BK459.out 3).trans rfl, (blk_cell BK459.out 4).trans rfl, (blk_cell BK471.out 0).trans rfl, (blk_cell BK471.out 1).trans rfl, (blk_cell BK471.out 2).trans rfl, (blk_cell BK471.out 3).trans rfl, (blk_cell BK471.out 4).trans rfl, (blk_cell BK472.out 0).trans rfl, (blk_cell BK472.out 1).trans rfl, (blk_cell BK472.out 2).trans rfl, (blk_cell BK472.out 3).trans rfl, (blk_cell BK472.out 4).trans rfl⟩ (fun hHeld => ?_)
              clear hK K
              refine norm_ (a' := ?_) ?_ ?_
              rotate_left
              · show Act.put _ (some 53) _ = _
                simp only [Act.put, List.setIfInBounds_toArray, List.set_cons_zero, List.set_cons_succ, i64_w, i32_w]
                rfl
              refine pure_ (i := 35) (N := some 54) (v := ?_) (a' := ?_) #[true, true, true, true, true, true, true, true, true, true, true, true, true, true, true, true, true, true, true, true, true, true, true, true, true, true, true, true, true, true, true, true, true, true, true, true, false, false, false, false, false, false, false, false, false, false, false, false, false, false, false, false] rfl rfl (any_of HT_.out (by kernel_rfl)) (fun _ _ _ h => h) (Or.inl ⟨by rfl, ?_⟩) ?_ ?_
              rotate_left
              · intro w'
                go_simp
                with_reducible rfl
              rotate_left
              · simp only [Act.put, List.setIfInBounds_toArray, List.set_cons_zero, List.set_cons_succ, i64_w, i32_w]
                rfl
              refine pure_ (i := 36) (N := some 55) (v := ?_) (a' := ?_) #[true, true, true, true, true, true, true, true, true, true, true, true, true, true, true, true, true, true, true, true, true, true, true, true, true, true, true, true, true, true, true, true, true, true, true, true, true, false, false, false, false, false, false, false, false, false, false, false, false, false, false, false] rfl rfl (any_of HT_.out (by kernel_rfl)) (fun _ _ _ h => h) (Or.inl ⟨by rfl, ?_⟩) ?_ ?_
              rotate_left
              · intro w'
                go_simp
                with_reducible rfl
              rotate_left
              · simp only [Act.put, List.setIfInBounds_toArray, List.set_cons_zero, List.set_cons_succ, i64_w, i32_w]
                rfl
              refine pure_ (i := 37) (N := some 56) (v := ?_) (a' := ?_) #[true, true, true, true, true, true, true, true, true, true, true, true, true, true, true, true, true, true, true, true, true, true, true, true, true, true, true, true, true, true, true, true, true, true, true, true, true, true, false, false, false, false, false, false, false, false, false, false, false, false, false, false] rfl rfl (any_of HT_.out (by kernel_rfl)) (fun _ _ _ h => h) (Or.inl ⟨by rfl, ?_⟩) ?_ ?_
              rotate_left
              · intro w'
                go_simp
                with_reducible rfl
              rotate_left
              · simp only [Act.put, List.setIfInBounds_toArray, List.set_cons_zero, List.set_cons_succ, i64_w, i32_w]
                rfl
              refine pure_ (i := 38) (N := some 57) (v := ?_) (a' := ?_) #[true, true, true, true, true, true, true, true, true, true, true, true, true, true, true, true, true, true, true, true, true, true, true, true, true, true, true, true, true, true, true, true, true, true, true, true, true, true, true, false, false, false, false, false, false, false, false, false, false, false, false, false] rfl rfl (any_of HT_.out (by kernel_rfl)) (fun _ _ _ h => h) (Or.inl ⟨by rfl, ?_⟩) ?_ ?_
              rotate_left
              · intro w'
                go_simp
                with_reducible rfl
              rotate_left
              · simp only [Act.put, List.setIfInBounds_toArray, List.set_cons_zero, List.set_cons_succ, i64_w, i32_w]
                rfl
              refine pure_ (i := 44) (N := some 63) (v := ?_) (a' := ?_) #[true, true, true, true, true, true, true, true, true, true, true, true, true, true, true, true, true, true, true, true, true, true, true, true, true, true, true, true, true, true, true, true, true, true, true, true, true, true, true, false, false, false, false, false, true, false, false, false, false, false, false, false] rfl rfl (any_of HT_.out (by kernel_rfl)) (fun _ _ _ h => h) (Or.inl ⟨by rfl, ?_⟩) ?_ ?_
              rotate_left
              · intro w'
                go_simp
                with_reducible rfl
              rotate_left
              · simp only [Act.put, List.setIfInBounds_toArray, List.set_cons_zero, List.set_cons_succ, i64_w, i32_w]
                rfl
              refine pure_ (i := 46) (N := some 65) (v := ?_) (a' := ?_) #[true, true, true, true, true, true, true, true, true, true, true, true, true, true, true, true, true, true, true, true, true, true, true, true, true, true, true, true, true, true, true, true, true, true, true, true, true, true, true, false, false, false, false, false, true, false, true, false, false, false, false, false] rfl rfl (any_of HT_.out (by kernel_rfl)) (fun _ _ _ h => h) (Or.inl ⟨by rfl, ?_⟩) ?_ ?_
              rotate_left
              · intro w'
                go_simp
                with_reducible rfl
              rotate_left
              · simp only [Act.put, List.setIfInBounds_toArray, List.set_cons_zero, List.set_cons_succ, i64_w, i32_w]
                rfl
              refine take_ (i := 39) (N := some 58) (v := ?_) (a' := ?_) #[true, true, true, true, true, true, true, true, true, true, true, true, true, true, true, true, true, true, true, true, true, true, true, true, true, true, true, true, true, true, true, true, true, true, true, true, true, true, true, true, false, false, false, false, true, false, true, false, false, false, false, false] rfl rfl (take_ofW HT_.out HW_.out (by kernel_rfl)) (fun _ _ _ h => h) (Or.inl ⟨by rfl, ?_⟩) hHeld ?_ ?_
              rotate_left
              · rintro w' ⟨s0, s1, s2, s3, s4, s5, s6, s7, s8, s9, s10, s11, s12, s13, s14⟩
                go_simp
                with_reducible rfl
              rotate_left
              · simp only [Act.put, List.setIfInBounds_toArray, List.set_cons_zero, List.set_cons_succ, i64_w, i32_w]
                rfl
              refine take_ (i := 41) (N := some 60) (v := ?_) (a' := ?_) #[true, true, true, true, true, true, true, true, true, true, true, true, true, true, true, true, true, true, true, true, true, true, true, true, true, true, true, true, true, true, true, true, true, true, true, true, true, true, true, true, false, true, false, false, true, false, true, false, false, false, false, false] rfl rfl (take_ofW HT_.out HW_.out (by kernel_rfl)) (fun _ _ _ h => h) (Or.inl ⟨by rfl, ?_⟩) hHeld ?_ ?_
              rotate_left
              · rintro w' ⟨s0, s1, s2, s3, s4, s5, s6, s7, s8, s9, s10, s11, s12, s13, s14⟩
                go_simp
                with_reducible rfl
              rotate_left
              · simp only [Act.put, List.setIfInBounds_toArray, List.set_cons_zero, List.set_cons_succ, i64_w, i32_w]
                rfl
              refine take_ (i := 45) (N := some 64) (v := ?_) (a' := ?_) #[true, true, true, true, true, true, true, true, true, true, true, true, true, true, true, true, true, true, true, true, true, true, true, true, true, true, true, true, true, true, true, true, true, true, true, true, true, true, true, true, false, true, false, false, true, true, true, false, false, false, false, false] rfl rfl (take_ofW HT_.out HW_.out (by kernel_rfl)) (fun _ _ _ h => h) (Or.inl ⟨by rfl, ?_⟩) hHeld ?_ ?_
              rotate_left
              · rintro w' ⟨s0, s1, s2, s3, s4, s5, s6, s7, s8, s9, s10, s11, s12, s13, s14⟩
                go_simp
                with_reducible rfl
              rotate_left
              · simp only [Act.put, List.setIfInBounds_toArray, List.set_cons_zero, List.set_cons_succ, i64_w, i32_w]
                rfl
              refine take_ (i := 47) (N := some 66) (v := ?_) (a' := ?_) #[true, true, true, true, true, true, true, true, true, true, true, true, true, true, true, true, true, true, true, true, true, true, true, true, true, true, true, true, true, true, true, true, true, true, true, true, true, true, true, true, false, true, false, false, true, true, true, true, false, false, false, false] rfl rfl (take_ofW HT_.out HW_.out (by kernel_rfl)) (fun _ _ _ h => h) (Or.inl ⟨by rfl, ?_⟩) hHeld ?_ ?_
              rotate_left
              · rintro w' ⟨s0, s1, s2, s3, s4, s5, s6, s7, s8, s9, s10, s11, s12, s13, s14⟩
                go_simp
                with_reducible rfl
              rotate_left
              · simp only [Act.put, List.setIfInBounds_toArray, List.set_cons_zero, List.set_cons_succ, i64_w, i32_w]
                rfl
              refine pure_ (i := 48) (N := some 67) (v := ?_) (a' := ?_) #[true, true, true, true, true, true, true, true, true, true, true, true, true, true, true, true, true, true, true, true, true, true, true, true, true, true, true, true, true, true, true, true, true, true, true, true, true, true, true, true, false, true, false, false, true, true, true, true, true, false, false, false] rfl rfl (any_of HT_.out (by kernel_rfl)) (fun _ _ _ h => h) (Or.inl ⟨by rfl, ?_⟩) ?_ ?_
              rotate_left
              · intro w'
                go_simp
                with_reducible rfl
              rotate_left
              · simp only [Act.put, List.setIfInBounds_toArray, List.set_cons_zero, List.set_cons_succ, i64_w, i32_w]
                rfl
              refine one_ (i := 40) (N := some 59) #[true, true, true, true, true, true, true, true, true, true, true, true, true, true, true, true, true, true, true, true, true, true, true, true, true, true, true, true, true, true, true, true, true, true, true, true, true, true, true, true, true, true, false, false, true, true, true, true, true, false, false, false] rfl rfl (one_of HT_.out (by kernel_rfl)) (by decide) (fun K hK => ?_)
              refine goes_ Try.func45 (by kernel_rfl) rfl #[.agg #[.int .u8 t448, .string t449, .slice Ao224 t450.length co224, .slice Ao225 t453.length co225, .slice Ao226 t456.length co226]] (by rfl) rfl rfl (by (try simp only [List.map_toArray, List.map_cons, List.map_nil]); first | done | rfl | (simp only [List.length_drop, List.length_take]; rfl)) ?_
              with_reducible refine (value_Type.calls t448 t449 _ _ t450 _ _ t453 _ _ t456 t484 _ ?side1 ?side2 ?side3 ?side4 ?side5 ?side6 A212.out).mono ?_
              (case side1 => repeat (first | exact (Kd.R_reads' HO452.out).2.2 | (with_reducible refine Kd.C_alloc ?_ _) | (with_reducible refine Kd.C_drewN ?_ _) | (with_reducible refine Kd.C_drew ?_)))
              (case side2 => exact (Kd.R_reads' HO452.out).2.1)
              (case side3 => repeat (first | exact (Kd.R_reads' HO455.out).2.2 | (with_reducible refine Kd.C_alloc ?_ _) | (with_reducible refine Kd.C_drewN ?_ _) | (with_reducible refine Kd.C_drew ?_)))
              (case side4 => exact (Kd.R_reads' HO455.out).2.1)
              (case side5 => repeat (first | exact (Kd.R_reads' HO458.out).2.2 | (with_reducible refine Kd.C_alloc ?_ _) | (with_reducible refine Kd.C_drewN ?_ _) | (with_reducible refine Kd.C_drew ?_)))
              (case side6 => exact (Kd.R_reads' HO458.out).2.1)
              rintro e w253 ⟨rfl, hb⟩
              refine ⟨_, rfl, ?_⟩
              have n0_ := Aside0.mk (Kd.R_below (by (with_reducible repeat (first | apply Kd.R_alloc | apply Kd.R_drewN | apply Kd.R_drew)); exact HO452.out) hb)
              have n1_ := Aside0.mk (Kd.R_below (by (with_reducible repeat (first | apply Kd.R_alloc | apply Kd.R_drewN | apply Kd.R_drew)); exact HO455.out) hb)
              have n2_ := Aside0.mk (Kd.R_below (by (with_reducible repeat (first | apply Kd.R_alloc | apply Kd.R_drewN | apply Kd.R_drew)); exact HO458.out) hb)
              have n3_ := Aside0.mk (Kd.R_below (by (with_reducible repeat (first | apply Kd.R_alloc | apply Kd.R_drewN | apply Kd.R_drew)); exact HO464.out) hb)
              have n4_ := Aside0.mk (Kd.R_below (by (with_reducible repeat (first | apply Kd.R_alloc | apply Kd.R_drewN | apply Kd.R_drew)); exact HO467.out) hb)
              have n5_ := Aside0.mk (Kd.R_below (by (with_reducible repeat (first | apply Kd.R_alloc | apply Kd.R_drewN | apply Kd.R_drew)); exact HO470.out) hb)
              have n6_ := Aside0.mk (blk_below (g := gb445) (o := .cells #[.int .u8 a0_0, .string a0_1, .slice A0_2 l0_2.length c0_2, .slice A0_3 l0_3.length c0_3, .slice A0_4 l0_4.length c0_4] 26 (0, 0)) (by (with_reducible repeat (first | refine blk_drewN ?_ _ | refine blk_drew ?_ | refine blk_alloc ?_ _)); exact BK445.out) hb)
              have n7_ := Aside0.mk (blk_below (g := gb446) (o := .cells #[.int .u8 a1_0, .string a1_1, .slice A1_2 l1_2.length c1_2, .slice A1_3 l1_3.length c1_3, .slice A1_4 l1_4.length c1_4] 26 (0, 0)) (by (with_reducible repeat (first | refine blk_drewN ?_ _ | refine blk_drew ?_ | refine blk_alloc ?_ _)); exact BK446.out) hb)
              have n8_ := Aside0.mk (blk_below (g := gb459) (o := .cells #[.int .u8 t448, .string t449, .slice Ao224 t450.length co224, .slice Ao225 t453.length co225, .slice Ao226 t456.length co226] 26 (0, 0)) (by (with_reducible repeat (first | refine blk_drewN ?_ _ | refine blk_drew ?_ | refine blk_alloc ?_ _)); exact BK459.out) hb)
              have n9_ := Aside0.mk (blk_below (g := gb471) (o := .cells #[.int .u8 t460, .string t461, .slice Ao234 t462.length co234, .slice Ao235 t465.length co235, .slice Ao236 t468.length co236] 26 (0, 0)) (by (with_reducible repeat (first | refine blk_drewN ?_ _ | refine blk_drew ?_ | refine blk_alloc ?_ _)); exact BK471.out) hb)
              have n10_ := Aside0.mk (blk_below (g := gb472) (o := .cells #[.int .u8 ((t448 + 1) % 256), .string t449, .slice Ao224 t450.length co224, .slice Ao225 t453.length co225, .slice Ao226 t456.length co226] 26 (0, 0)) (by (with_reducible repeat (first | refine blk_drewN ?_ _ | refine blk_drew ?_ | refine blk_alloc ?_ _)); exact BK472.out) hb)
              have n11_ := Aside0.mk (below_step (by repeat (first | (with_reducible first | exact HB.out | apply below_alloc | apply pw_below_drewN | apply below_drew1 | refine below_set ?_ GE445.out | refine below_set ?_ GE446.out | refine below_set ?_ GE459.out | refine below_set ?_ GE471.out | refine below_set ?_ GE472.out) | exact HB.out)) hb)
              clear HO452
              clear HO455
              clear HO458
              clear HO464
              clear HO467
              clear HO470
              clear BK445
              clear BK446
              clear BK459
              clear BK471
              clear BK472
              clear HB
              have HO452 := n0_
              have HO455 := n1_
              have HO458 := n2_
              have HO464 := n3_
              have HO467 := n4_
              have HO470 := n5_
              have BK445 := n6_
              have BK446 := n7_
              have BK459 := n8_
              have BK471 := n9_
              have BK472 := n10_
              have HB := n11_
              clear n0_ n1_ n2_ n3_ n4_ n5_ n6_ n7_ n8_ n9_ n10_ n11_
              (try clear hb)
              (try clear hb2)
              (try clear hk)
              (try clear hi)
              refine hK.out _ _ ⟨(blk_cell BK459.out 0).trans rfl, (blk_cell BK459.out 1).trans rfl, (blk_cell BK459.out 2).trans rfl, (blk_cell BK459.out 3).trans rfl, (blk_cell BK459.out 4).trans rfl, (blk_cell BK471.out 0).trans rfl, (blk_cell BK471.out 1).trans rfl, (blk_cell BK471.out 2).trans rfl, (blk_cell BK471.out 3).trans rfl, (blk_cell BK471.out 4).trans rfl, (blk_cell BK472.out 0).trans rfl, (blk_cell BK472.out 1).trans rfl, (blk_cell BK472.out 2).trans rfl, (blk_cell BK472.out 3).trans rfl, (blk_cell BK472.out 4).trans rfl⟩ (fun hHeld => ?_)
              clear hK K
              refine norm_ (a' := ?_) ?_ ?_
              rotate_left
              · show Act.put _ (some 59) _ = _
                simp only [Act.put, List.setIfInBounds_toArray, List.set_cons_zero, List.set_cons_succ, i64_w, i32_w]
                rfl
              refine one_ (i := 42) (N := some 61) #[true, true, true, true, true, true, true, true, true, true, true, true, true, true, true, true, true, true, true, true, true, true, true, true, true, true, true, true, true, true, true, true, true, true, true, true, true, true, true, true, true, true, true, false, true, true, true, true, true, false, false, false] rfl rfl (one_of HT_.out (by kernel_rfl)) (by decide) (fun K hK => ?_)
              refine goes_ Try.func45 (by kernel_rfl) rfl #[.agg #[.int .u8 t460, .string t461, .slice Ao234 t462.length co234, .slice Ao235 t465.length co235, .slice Ao236 t468.length co236]] (by rfl) rfl rfl (by (try simp only [List.map_toArray, List.map_cons, List.map_nil]); first | done | rfl | (simp only [List.length_drop, List.length_take]; rfl)) ?_
              with_reducible refine (value_Type.calls t460 t461 _ _ t462 _ _ t465 _ _ t468 t485 _ ?side1 ?side2 ?side3 ?side4 ?side5 ?side6 A213.out).mono ?_
              (case side1 => repeat (first | exact (Kd.R_reads' HO464.out).2.2 | (with_reducible refine Kd.C_alloc ?_ _) | (with_reducible refine Kd.C_drewN ?_ _) | (with_reducible refine Kd.C_drew ?_)))
              (case side2 => exact (Kd.R_reads' HO464.out).2.1)
              (case side3 => repeat (first | exact (Kd.R_reads' HO467.out).2.2 | (with_reducible refine Kd.C_alloc ?_ _) | (with_reducible refine Kd.C_drewN ?_ _) | (with_reducible refine Kd.C_drew ?_)))
              (case side4 => exact (Kd.R_reads' HO467.out).2.1)
              (case side5 => repeat (first | exact (Kd.R_reads' HO470.out).2.2 | (with_reducible refine Kd.C_alloc ?_ _) | (with_reducible refine Kd.C_drewN ?_ _) | (with_reducible refine Kd.C_drew ?_)))
              (case side6 => exact (Kd.R_reads' HO470.out).2.1)
              rintro e w254 ⟨rfl, hb⟩
              refine ⟨_, rfl, ?_⟩
              have n0_ := Aside0.mk (Kd.R_below (by (with_reducible repeat (first | apply Kd.R_alloc | apply Kd.R_drewN | apply Kd.R_drew)); exact HO452.out) hb)
              have n1_ := Aside0.mk (Kd.R_below (by (with_reducible repeat (first | apply Kd.R_alloc | apply Kd.R_drewN | apply Kd.R_drew)); exact HO455.out) hb)
              have n2_ := Aside0.mk (Kd.R_below (by (with_reducible repeat (first | apply Kd.R_alloc | apply Kd.R_drewN | apply Kd.R_drew)); exact HO458.out) hb)
              have n3_ := Aside0.mk (Kd.R_below (by (with_reducible repeat (first | apply Kd.R_alloc | apply Kd.R_drewN | apply Kd.R_drew)); exact HO464.out) hb)
              have n4_ := Aside0.mk (Kd.R_below (by (with_reducible repeat (first | apply Kd.R_alloc | apply Kd.R_drewN | apply Kd.R_drew)); exact HO467.out) hb)
              have n5_ := Aside0.mk (Kd.R_below (by (with_reducible repeat (first | apply Kd.R_alloc | apply Kd.R_drewN | apply Kd.R_drew)); exact HO470.out) hb)
              have n6_ := Aside0.mk (blk_below (g := gb445) (o := .cells #[.int .u8 a0_0, .string a0_1, .slice A0_2 l0_2.length c0_2, .slice A0_3 l0_3.length c0_3, .slice A0_4 l0_4.length c0_4] 26 (0, 0)) (by (with_reducible repeat (first | refine blk_drewN ?_ _ | refine blk_drew ?_ | refine blk_alloc ?_ _)); exact BK445.out) hb)
              have n7_ := Aside0.mk (blk_below (g := gb446) (o := .cells #[.int .u8 a1_0, .string a1_1, .slice A1_2 l1_2.length c1_2, .slice A1_3 l1_3.length c1_3, .slice A1_4 l1_4.length c1_4] 26 (0, 0)) (by (with_reducible repeat (first | refine blk_drewN ?_ _ | refine blk_drew ?_ | refine blk_alloc ?_ _)); exact BK446.out) hb)
              have n8_ := Aside0.mk (blk_below (g := gb459) (o := .cells #[.int .u8 t448, .string t449, .slice Ao224 t450.length co224, .slice Ao225 t453.length co225, .slice Ao226 t456.length co226] 26 (0, 0)) (by (with_reducible repeat (first | refine blk_drewN ?_ _ | refine blk_drew ?_ | refine blk_alloc ?_ _)); exact BK459.out) hb)
              have n9_ := Aside0.mk (blk_below (g := gb471) (o := .cells #[.int .u8 t460, .string t461, .slice Ao234 t462.length co234, .slice Ao235 t465.length co235, .slice Ao236 t468.length co236] 26 (0, 0)) (by (with_reducible repeat (first | refine blk_drewN ?_ _ | refine blk_drew ?_ | refine blk_alloc ?_ _)); exact BK471.out) hb)
              have n10_ := Aside0.mk (blk_below (g := gb472) (o := .cells #[.int .u8 ((t448 + 1) % 256), .string t449, .slice Ao224 t450.length co224, .slice Ao225 t453.length co225, .slice Ao226 t456.length co226] 26 (0, 0)) (by (with_reducible repeat (first | refine blk_drewN ?_ _ | refine blk_drew ?_ | refine blk_alloc ?_ _)); exact BK472.out) hb)
              have n11_ := Aside0.mk (below_step (by repeat (first | (with_reducible first | exact HB.out | apply below_alloc | apply pw_below_drewN | apply below_drew1 | refine below_set ?_ GE445.out | refine below_set ?_ GE446.out | refine below_set ?_ GE459.out | refine below_set ?_ GE471.out | refine below_set ?_ GE472.out) | exact HB.out)) hb)
              clear HO452
              clear HO455
              clear HO458
              clear HO464
              clear HO467
              clear HO470
              clear BK445
              clear BK446
              clear BK459
              clear BK471
              clear BK472
              clear HB
              have HO452 := n0_
              have HO455 := n1_
              have HO458 := n2_
              have HO464 := n3_
              have HO467 := n4_
              have HO470 := n5_
              have BK445 := n6_
              have BK446 := n7_
              have BK459 := n8_
              have BK471 := n9_
              have BK472 := n10_
              have HB := n11_
              clear n0_ n1_ n2_ n3_ n4_ n5_ n6_ n7_ n8_ n9_ n10_ n11_
              (try clear hb)
              (try clear hb2)
              (try clear hk)
              (try clear hi)
              refine hK.out _ _ ⟨(blk_cell BK459.out 0).trans rfl, (blk_cell BK459.out 1).trans rfl, (blk_cell BK459.out 2).trans rfl, (blk_cell BK459.out 3).trans rfl, (blk_cell BK459.out 4).trans rfl, (blk_cell BK471.out 0).trans rfl, (blk_cell BK471.out 1).trans rfl, (blk_cell BK471.out 2).trans rfl, (blk_cell BK471.out 3).trans rfl, (blk_cell BK471.out 4).trans rfl, (blk_cell BK472.out 0).trans rfl, (blk_cell BK472.out 1).trans rfl, (blk_cell BK472.out 2).trans rfl, (blk_cell BK472.out 3).trans rfl, (blk_cell BK472.out 4).trans rfl⟩ (fun hHeld => ?_)
              clear hK K
              refine norm_ (a' := ?_) ?_ ?_
              rotate_left
              · show Act.put _ (some 61) _ = _
                simp only [Act.put, List.setIfInBounds_toArray, List.set_cons_zero, List.set_cons_succ, i64_w, i32_w]
                rfl
              refine pure_ (i := 43) (N := some 62) (v := ?_) (a' := ?_) #[true, true, true, true, true, true, true, true, true, true, true, true, true, true, true, true, true, true, true, true, true, true, true, true, true, true, true, true, true, true, true, true, true, true, true, true, true, true, true, true, true, true, true, true, true, true, true, true, true, false, false, false] rfl rfl (any_of HT_.out (by kernel_rfl)) (fun _ _ _ h => h) (Or.inl ⟨by rfl, ?_⟩) ?_ ?_
              rotate_left
              · intro w'
                go_simp
                with_reducible rfl
              rotate_left
              · simp only [Act.put, List.setIfInBounds_toArray, List.set_cons_zero, List.set_cons_succ, i64_w, i32_w]
                rfl
              refine pure_ (i := 49) (N := some 68) (v := ?_) (a' := ?_) #[true, true, true, true, true, true, true, true, true, true, true, true, true, true, true, true, true, true, true, true, true, true, true, true, true, true, true, true, true, true, true, true, true, true, true, true, true, true, true, true, true, true, true, true, true, true, true, true, true, true, false, false] rfl rfl (any_of HT_.out (by kernel_rfl)) (fun _ _ _ h => h) (Or.inl ⟨by rfl, ?_⟩) ?_ ?_
              rotate_left
              · intro w'
                go_simp
                with_reducible rfl
              rotate_left
              · simp only [Act.put, List.setIfInBounds_toArray, List.set_cons_zero, List.set_cons_succ, i64_w, i32_w]
                rfl
              refine pure_ (i := 50) (N := some 69) (v := ?_) (a' := ?_) #[true, true, true, true, true, true, true, true, true, true, true, true, true, true, true, true, true, true, true, true, true, true, true, true, true, true, true, true, true, true, true, true, true, true, true, true, true, true, true, true, true, true, true, true, true, true, true, true, true, true, true, false] rfl rfl (any_of HT_.out (by kernel_rfl)) (fun _ _ _ h => h) (Or.inl ⟨by rfl, ?_⟩) ?_ ?_
              rotate_left
              · intro w'
                go_simp
                with_reducible rfl
              rotate_left
              · simp only [Act.put, List.setIfInBounds_toArray, List.set_cons_zero, List.set_cons_succ, i64_w, i32_w]
                rfl
              refine pure_ (i := 51) (N := some 4) (v := ?_) (a' := ?_) #[true, true, true, true, true, true, true, true, true, true, true, true, true, true, true, true, true, true, true, true, true, true, true, true, true, true, true, true, true, true, true, true, true, true, true, true, true, true, true, true, true, true, true, true, true, true, true, true, true, true, true, true] rfl rfl (any_of HT_.out (by kernel_rfl)) (fun _ _ _ h => h) (Or.inl ⟨by rfl, ?_⟩) ?_ ?_
              rotate_left
              · intro w'
                go_simp
                with_reducible rfl
              rotate_left
              · simp only [Act.put, List.setIfInBounds_toArray, List.set_cons_zero, List.set_cons_succ, i64_w, i32_w]
                rfl
              refine done_ (done_of HT_.out (by kernel_rfl)) ?_
              try go_wp2
              all_goals go_ret
              all_goals exact ⟨by first | rfl | (simp [errW_none, errW_some] <;> rfl) | (simp [*, errW_none, errW_some] <;> rfl), by repeat (first | (with_reducible first | exact HB.out | apply below_alloc | apply pw_below_drewN | apply below_drew1 | refine below_set ?_ GE445.out | refine below_set ?_ GE446.out | refine below_set ?_ GE459.out | refine below_set ?_ GE471.out | refine below_set ?_ GE472.out) | exact HB.out)⟩
            · rw [if_neg c211] at H
              have c211b0 : ((t482.toList == ([110, 111, 110, 101] : List UInt8)) == (t483 == 0)) = false := by (first | exact c211 | (simp; done) | (have h_ := c211; simp at h_; done) | (have h_ := c211; simp at h_ ⊢; first | done | exact h_))
              (try (have c211b1 : decide ((t482.toList == ([110, 111, 110, 101] : List UInt8)) = (t483 == 0)) = false := by (first | exact c211 | (simp; done) | (have h_ := c211; simp at h_; done) | (have h_ := c211; simp at h_ ⊢; first | done | exact h_))))
              (try (have c211b2 : ((t482.toList == ([110, 111, 110, 101] : List UInt8)) == (t483 == 0)) = false := by (first | exact c211 | (simp; done) | (have h_ := c211; simp at h_; done) | (have h_ := c211; simp at h_ ⊢; first | done | exact h_))))
              (try (have c211b3 : ¬ ((t482.toList == ([110, 111, 110, 101] : List UInt8)) = (t483 == 0)) := by (first | exact c211 | (simp; done) | (have h_ := c211; simp at h_; done) | (have h_ := c211; simp at h_ ⊢; first | done | exact h_))))
              clear c211
              exact absurd (HT.out ▸ H) (by simp)
    · rw [if_neg c9] at H
      have c9b0 : (t473 == t474) = false := by (first | exact c9 | (simp; done) | (have h_ := c9; simp at h_; done) | (have h_ := c9; simp at h_ ⊢; first | done | exact h_))
      (try (have c9b1 : decide (t473 = t474) = false := by (first | exact c9 | (simp; done) | (have h_ := c9; simp at h_; done) | (have h_ := c9; simp at h_ ⊢; first | done | exact h_))))
      (try (have c9b2 : (t473 == t474) = false := by (first | exact c9 | (simp; done) | (have h_ := c9; simp at h_; done) | (have h_ := c9; simp at h_ ⊢; first | done | exact h_))))
      (try (have c9b3 : ¬ (t473 = t474) := by (first | exact c9 | (simp; done) | (have h_ := c9; simp at h_; done) | (have h_ := c9; simp at h_ ⊢; first | done | exact h_))))
      clear c9
      exact absurd (HT.out ▸ H) (by simp)
  · replace c6 := Bool.eq_false_iff.mpr c6
    subst c6
    have H1 : (some false) = some r := by rw [if_neg (show ¬ (false = true) by decide)] at H; exact H
    clear H
    have H := H1
    clear H1
    exact absurd (HT.out ▸ H) (by simp)
end Go.Proofs.Ytbbgiedfkklojaa.X
