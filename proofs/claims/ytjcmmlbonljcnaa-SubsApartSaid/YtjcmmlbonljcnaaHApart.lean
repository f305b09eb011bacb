/- SubsApart: plain, and its walk. -/
import Derived.Test.YtjcmmlbonljcnaaHShown
set_option linter.unusedVariables false
set_option linter.unusedSimpArgs false
namespace Go.Proofs.Ytjcmmlbonljcnaa.X
open Go.RowKit Go.Maps Go.ChangeMaps Go.MapKept Go.Proofs.Ytjcmmlbonljcnaa.Mv Go.Proofs.YtjcmmlbonljcnaaW.PrintWords

theorem add_one (p q : Pr) : addP q [p] = if p = q then [q] else if lessP q p = true then [q, p] else [p, q] := by
  unfold addP remP
  by_cases h : p = q
  · simp [h, insP]
  · simp [h, insP]
theorem ap_same (a : Int) (x y : ByteArray) : (hearP x (addP (a, y) [(a, x)])).length = 1 ∧ ofP a (dropP a (addP (a, y) [(a, x)])) = [] := by
  rw [add_one]
  by_cases h : x = y
  · subst h
    simp [hearP, ofP, dropP]
  · have h' : ¬ y = x := fun e => h e.symm
    have h1 : ¬ ((a, x) : Pr) = (a, y) := by simp [h]
    rw [if_neg h1]
    split <;> simp [hearP, ofP, dropP, h, h']
theorem ap_other (a b : Int) (hab : ¬ a = b) (x y : ByteArray) : (ofP a (addP (b, y) [(a, x)])).length = 1 ∧ (ofP b (addP (b, y) [(a, x)])).length = 1 ∧ (hearP x (addP (b, y) [(a, x)])).length = (if x = y then 2 else 1) ∧
    (ofP a (dropP b (addP (b, y) [(a, x)]))).length = 1 ∧ (hearP x (dropP b (addP (b, y) [(a, x)]))).length = 1 ∧ ofP b (dropP b (addP (b, y) [(a, x)])) = [] := by
  rw [add_one]
  have hba : ¬ b = a := fun e => hab e.symm
  have h1 : ¬ ((a, x) : Pr) = (b, y) := by simp [hab]
  rw [if_neg h1]
  by_cases h : x = y
  · subst h
    split <;> simp [hearP, ofP, dropP, hab, hba]
  · have h' : ¬ y = x := fun e => h e.symm
    split <;> simp [hearP, ofP, dropP, hab, hba, h, h']

set_option maxHeartbeats 4000000 in
set_option maxRecDepth 100000 in
theorem SubsApart_walk (a b : Int) (x0 y0 : ByteArray) (w : World) (ha : (Lit.int .i64 a).wf = true) (hb : (Lit.int .i64 b).wf = true) :
    Calls Try.prog 6 #[.int .i64 a, .int .i64 b, .agg #[.string x0, .string y0]] w fun e w' => e = .returned (.bool true) ∧ Below w.heap.size w w' := by
  have HX := Aside0.mk (ok_name ha x0)
  have HY := Aside0.mk (ok_name hb y0)
  clear ha hb
  go_enter Try.func6, Try.ntmps6
  go_wp2_with fail
  obtain ⟨wb, hwb⟩ : ∃ wb, w.alloc (.cells #[.string x0, .string y0] 46) = wb := ⟨_, rfl⟩
  have HWB := Aside0.mk (show Below w.heap.size w wb by rw [← hwb]; exact below_alloc (Below.refl _ _) _)
  have HCB := Aside0.mk (show wb.heap[w.heap.size]? = some (.cells #[.string x0, .string y0] 46 (0, 0)) by rw [← hwb]; have := heap_alloc_new w (.cells #[.string x0, .string y0] 46); simpa using this)
  rw [hwb]
  obtain ⟨ga, hga⟩ : ∃ ga, w.heap.size = ga := ⟨_, rfl⟩
  have HGA := Aside0.mk hga
  rw [hga] at HCB ⊢
  clear hwb hga
  refine (shown_true _).mono ?_
  rintro e w1 ⟨rfl, HB1⟩
  have HW1 := Aside0.mk (below_then HWB.out HWB.out.size HB1.out)
  have HC1 := Aside0.mk ((HB1.out.block ga (pwlt HCB.out)).trans HCB.out)
  go_wp2_with fail
  refine (new_s w w1 HW1.out).mono ?_
  rintro e w2 ⟨g, m, rfl, HS2, _, _, HB2⟩
  have HC2 := Aside0.mk ((HB2.out.block ga (pwlt HC1.out)).trans HC1.out)
  have d0 : w2.cell? ⟨ga, 0, none⟩ = some (.string x0) := by simp [World.cell?, HC2.out]
  go_wp2_with fail
  refine (name_any x0 w2).mono ?_
  rintro e w3 ⟨rfl, HB3⟩
  have HC3 := Aside0.mk ((HB3.out.block ga (pwlt HC2.out)).trans HC2.out)
  have d1 : w3.cell? ⟨ga, 1, none⟩ = some (.string y0) := by simp [World.cell?, HC3.out]
  obtain ⟨x, hx⟩ : ∃ x, nameB x0 = x := ⟨_, rfl⟩
  rw [hx] at HX ⊢
  clear hx
  go_wp2_with fail
  refine (name_any y0 w3).mono ?_
  rintro e w4 ⟨rfl, HB4⟩
  obtain ⟨y, hy⟩ : ∃ y, nameB y0 = y := ⟨_, rfl⟩
  rw [hy] at HY ⊢
  clear hy
  have HS4 := Aside0.mk ((HS2.out.next HB3.out).next HB4.out)
  go_wp2_with fail
  refine (add_s g m 0 [] a x w4 HS4.out (by omega) HX.out 1 (by show (ofP a [(a, x)]).length = 1; simp [ofP])).mono ?_
  rintro e w5 ⟨rfl, HS5, _⟩
  go_wp2_with fail
  refine (of_s g m 1 [(a, x)] a w5 HS5.out (by omega) [x] (by simp [ofP]) 1 rfl).mono ?_
  rintro e w6 ⟨A6, k6, rfl, _, _, HS6, _⟩
  obtain ⟨q7, hq7⟩ : ∃ q, (ofP b (addP (b, y) [(a, x)])).length = q := ⟨_, rfl⟩
  have HQ7 := Aside0.mk hq7
  clear hq7
  go_wp2_with fail
  refine (add_s g m 1 [(a, x)] b y w6 HS6.out (by omega) HY.out q7 HQ7.out).mono ?_
  rintro e w7 ⟨rfl, HS7, _⟩
  obtain ⟨L2, hL2⟩ : ∃ L2, addP (b, y) [(a, x)] = L2 := ⟨_, rfl⟩
  rw [hL2] at HS7
  obtain ⟨l8, hl8⟩ : ∃ l, ofP a L2 = l := ⟨_, rfl⟩
  obtain ⟨q8, hq8⟩ : ∃ q, l8.length = q := ⟨_, rfl⟩
  have hin : x ∈ l8 := by rw [← hl8, ← hL2, mem_of, mem_add]; exact .inr (by simp)
  have hq8l : q8 ≤ 2 := by rw [← hq8, ← hl8]; exact Nat.le_trans len_of HS7.out.subs.2.choose_spec.2.2.2.2
  have HL2 := Aside0.mk hL2
  have HL8 := Aside0.mk hl8
  have HQ8 := Aside0.mk hq8
  have HIN := Aside0.mk hin
  clear hL2 hl8 hq8 hin
  go_wp2_with fail
  refine (of_s g m 2 L2 a w7 HS7.out (by omega) l8 HL8.out q8 HQ8.out).mono ?_
  rintro e w8 ⟨A8, k8, rfl, hk8, HC8, HS8, _⟩
  go_wp2_with fail
  refine (in_any A8 k8 l8 x q8 HQ8.out w8 HC8.out hk8 (by omega) true ⟨fun _ => HIN.out, fun _ => rfl⟩).mono ?_
  rintro e w9 ⟨rfl, HB9⟩
  have HS9 := Aside0.mk (HS8.out.next HB9.out)
  by_cases hab : a = b
  · subst hab
    have HF := Aside0.mk (ap_same a x y)
    rw [HL2.out] at HF
    obtain ⟨l10, hl10⟩ : ∃ l, hearP x L2 = l := ⟨_, rfl⟩
    have HL10 := Aside0.mk hl10
    have HQ10 := Aside0.mk (show l10.length = 1 by rw [← hl10]; exact HF.out.1)
    clear hl10
    go_wp2_with fail
    refine (hear_s g m 2 L2 x w9 HS9.out (by omega) l10 HL10.out 1 HQ10.out).mono ?_
    rintro e w10 ⟨A10, k10, rfl, hk10, _, HS10, _⟩
    go_wp2_with fail
    refine (drop_s g m 2 L2 a w10 HS10.out).mono ?_
    rintro e w11 ⟨rfl, HS11, _⟩
    go_wp2_with fail
    refine (of_s g m 2 (dropP a L2) a w11 HS11.out (by omega) [] HF.out.2 0 rfl).mono ?_
    rintro e w12 ⟨A12, k12, rfl, _, _, HS12, _⟩
    go_wp2
    go_ret
    exact ⟨rfl, HS12.out.below⟩
  · have hne : (a != b) = true := by simp [hab]
    have HF := Aside0.mk (ap_other a b hab x y)
    rw [HL2.out] at HF
    obtain rfl : q8 = 1 := by rw [← HQ8.out, ← HL8.out]; exact HF.out.1
    obtain ⟨l9, hl9⟩ : ∃ l, ofP b L2 = l := ⟨_, rfl⟩
    have HL9 := Aside0.mk hl9
    have HQ9 := Aside0.mk (show l9.length = 1 by rw [← hl9]; exact HF.out.2.1)
    clear hl9
    go_wp2_with fail
    refine (of_s g m 2 L2 a w9 HS9.out (by omega) l8 HL8.out 1 HQ8.out).mono ?_
    rintro e w10 ⟨A10, k10, rfl, _, _, HS10, _⟩
    go_wp2_with fail
    refine (of_s g m 2 L2 b w10 HS10.out (by omega) l9 HL9.out 1 HQ9.out).mono ?_
    rintro e w11 ⟨A11, k11, rfl, _, _, HS11, _⟩
    obtain ⟨l10, hl10⟩ : ∃ l, hearP x L2 = l := ⟨_, rfl⟩
    have HL10 := Aside0.mk hl10
    obtain ⟨q10, hq10⟩ : ∃ q, l10.length = q := ⟨_, rfl⟩
    have HQ10 := Aside0.mk hq10
    have HQE := Aside0.mk (show q10 = (if x = y then 2 else 1) by rw [← hq10, ← hl10]; exact HF.out.2.2.1)
    clear hl10 hq10
    go_wp2_with fail
    refine (hear_s g m 2 L2 x w11 HS11.out (by omega) l10 HL10.out q10 HQ10.out).mono ?_
    rintro e w12 ⟨A12, k12, rfl, _, _, HS12, _⟩
    obtain ⟨l13, hl13⟩ : ∃ l, ofP a (dropP b L2) = l := ⟨_, rfl⟩
    have HL13 := Aside0.mk hl13
    have HQ13 := Aside0.mk (show l13.length = 1 by rw [← hl13]; exact HF.out.2.2.2.1)
    obtain ⟨l14, hl14⟩ : ∃ l, hearP x (dropP b L2) = l := ⟨_, rfl⟩
    have HL14 := Aside0.mk hl14
    have HQ14 := Aside0.mk (show l14.length = 1 by rw [← hl14]; exact HF.out.2.2.2.2.1)
    clear hl13 hl14
    by_cases hxy : x = y
    · obtain rfl : q10 = 2 := by rw [HQE.out, if_pos hxy]
      have hbe : (x.toList == y.toList) = true := by rw [hxy]; simp
      have HXY := Aside0.mk hxy
      clear hxy
      go_wp2_with fail
      refine (drop_s g m 2 L2 b w12 HS12.out).mono ?_
      rintro e w13 ⟨rfl, HS13, _⟩
      go_wp2_with fail
      refine (of_s g m 2 (dropP b L2) a w13 HS13.out (by omega) l13 HL13.out 1 HQ13.out).mono ?_
      rintro e w14 ⟨A14, k14, rfl, _, _, HS14, _⟩
      go_wp2_with fail
      refine (hear_s g m 2 (dropP b L2) x w14 HS14.out (by omega) l14 HL14.out 1 HQ14.out).mono ?_
      rintro e w15 ⟨A15, k15, rfl, _, _, HS15, _⟩
      go_wp2_with fail
      refine (of_s g m 2 (dropP b L2) b w15 HS15.out (by omega) [] HF.out.2.2.2.2.2 0 rfl).mono ?_
      rintro e w16 ⟨A16, k16, rfl, _, _, HS16, _⟩
      go_wp2
      go_ret
      exact ⟨rfl, HS16.out.below⟩
    · obtain rfl : q10 = 1 := by rw [HQE.out, if_neg hxy]
      have hbe : (x.toList == y.toList) = false := by rw [beq_eq_false_iff_ne]; intro e; exact hxy (toList_iff.1 e)
      have HXY := Aside0.mk hxy
      clear hxy
      go_wp2_with fail
      refine (drop_s g m 2 L2 b w12 HS12.out).mono ?_
      rintro e w13 ⟨rfl, HS13, _⟩
      go_wp2_with fail
      refine (of_s g m 2 (dropP b L2) a w13 HS13.out (by omega) l13 HL13.out 1 HQ13.out).mono ?_
      rintro e w14 ⟨A14, k14, rfl, _, _, HS14, _⟩
      go_wp2_with fail
      refine (hear_s g m 2 (dropP b L2) x w14 HS14.out (by omega) l14 HL14.out 1 HQ14.out).mono ?_
      rintro e w15 ⟨A15, k15, rfl, _, _, HS15, _⟩
      go_wp2_with fail
      refine (of_s g m 2 (dropP b L2) b w15 HS15.out (by omega) [] HF.out.2.2.2.2.2 0 rfl).mono ?_
      rintro e w16 ⟨A16, k16, rfl, _, _, HS16, _⟩
      go_wp2
      go_ret
      exact ⟨rfl, HS16.out.below⟩
end Go.Proofs.Ytjcmmlbonljcnaa.X
