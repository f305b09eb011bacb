/- The walk of NumDigits, by hand. -/
import Derived.Test.YtccgjpfkepamfaaDoorPNum2
import Derived.Test.YtccgjpfkepamfaaDoorELaidNum
import Derived.LoopTactic
import Derived.Deep.QuietTactic
import Derived.BigQuiet
import Derived.IntWalk
import Derived.Deep.RegionWith
import Derived.Deep.RegionHeld3
set_option linter.unusedVariables false
set_option linter.unusedSimpArgs false
namespace Go.Proofs.YtccgjpfkepamfaaDoor.X
open Go.RowKit Go.Lib Go.Proofs.YtccgjpfkepamfaaDoorW.PrintWords

theorem itoa_ten (n : Int) (h : n ≠ 0) : itoa (n * 10) = itoa n ++ [48] := by
  rcases Int.lt_or_gt_of_ne h with hn | hn
  · obtain ⟨u, hu⟩ := Int.eq_ofNat_of_zero_le (show 0 ≤ -n by omega)
    obtain rfl : n = -(u : Int) := by omega
    rw [show -(u : Int) * 10 = -((u * 10 : Nat) : Int) by omega, itoa_negn (u * 10) (by omega), itoa_negn u (by omega), dec_step (u * 10) (by omega)]
    rw [show u * 10 / 10 = u by omega, show u * 10 % 10 = 0 by omega]
    rfl
  · obtain ⟨u, rfl⟩ := Int.eq_ofNat_of_zero_le (show 0 ≤ n by omega)
    rw [show (u : Int) * 10 = ((u * 10 : Nat) : Int) by omega, itoa_nat, itoa_nat, dec_step (u * 10) (by omega)]
    rw [show u * 10 / 10 = u by omega, show u * 10 % 10 = 0 by omega]
    rfl
theorem text_ten (n : Int) (h : n ≠ 0) : textB (n * 10) = textB n ++ (⟨#[48]⟩ : ByteArray) := by
  apply str_ext'
  rw [app_data, textB_data, textB_data, itoa_ten n h]
theorem text_neg (n : Int) (h : n < 0) : textB (-n) = (textB n).extract 1 (textB n).size := by
  apply str_ext'
  obtain ⟨u, hu⟩ := Int.eq_ofNat_of_zero_le (show 0 ≤ -n by omega)
  obtain rfl : n = -(u : Int) := by omega
  rw [textB_data, Int.neg_neg, itoa_nat]
  have e : ((textB (-(u : Int))).extract 1 (textB (-(u : Int))).size).data.toList = (textB (-(u : Int))).data.toList.drop 1 := by
    rw [ByteArray.data_extract, Array.toList_extract]
    rw [List.extract_eq_take_drop, List.take_of_length_le]
    rw [List.length_drop, size_data]
    omega
  rw [e, textB_data, itoa_negn u (by omega)]
  rfl

/-- What the bytes of a told number are. -/
theorem text_at (n : Int) (k : Nat) (hk : k < (textB n).size) : ∃ c : Nat, bt (textB n) k = c ∧ ((48 ≤ c ∧ c ≤ 57) ∨ (c = 45 ∧ k = 0 ∧ n < 0)) ∧ (k = 0 → n < 0 → c = 45) ∧ (k = 0 → 0 < n → 49 ≤ c ∧ c ≤ 57) := by
  obtain ⟨c, r, he, hc, hr, h0, h45, _⟩ := itoa_head n
  have hkl : k < (textB n).data.toList.length := by rw [size_data]; exact hk
  refine ⟨((textB n).data.toList[k]).toNat, bt_data (List.getElem?_eq_getElem hkl), ?_⟩
  have hd : (textB n).data.toList = c :: r := by rw [textB_data, he]
  simp only [hd]
  cases k with
  | zero =>
    simp only [List.getElem_cons_zero]
    refine ⟨?_, fun _ hn => ?_, fun _ hn => ?_⟩
    · rcases hc with hc | hc
      · exact .inr ⟨by rw [hc]; rfl, trivial, h45.1 hc⟩
      · exact .inl hc
    · rw [h45.2 hn]; rfl
    · rcases hc with hc | hc
      · exact absurd (h45.1 hc) (by omega)
      · refine ⟨?_, hc.2⟩
        rcases Nat.lt_or_ge 48 c.toNat with h | h
        · omega
        · have : c = 48 := UInt8.toNat_inj.1 (by have : (48 : UInt8).toNat = 48 := rfl; omega)
          have := (h0 this).1
          omega
  | succ k =>
    simp only [List.getElem_cons_succ]
    have := hr _ (List.getElem_mem (by rw [hd] at hkl; simpa using hkl))
    exact ⟨.inl this, fun h => by omega, fun h => by omega⟩

set_option maxHeartbeats 1000000 in
theorem NumDigits_walk (w : World) (a0 : Int) (w0 : (Lit.int .i64 a0).wf = true) (hL : laidMetH Tryd.prog theList w) :
    Calls Tryd.prog 3 #[.int .i64 a0] w fun e w' => e = .returned (.bool true) ∧ Below w.heap.size w w' := by
  have HLD := Aside0.mk (Ld.of_laid hL)
  clear hL
  obtain ⟨a1, a2⟩ := i64_wf w0
  clear w0
  go_enter Tryd.func3, Tryd.ntmps3
  go_wp2_with fail
  refine (tipstafflaw01_shown.calls true w HLD.out shown_true).mono ?_
  rintro e w1 ⟨rfl, hb⟩
  have HB := Aside0.mk hb
  clear hb
  go_wp2_with fail
  have hnr : -576460752303423488 < a0.tmod 576460752303423488 ∧ a0.tmod 576460752303423488 < 576460752303423488 := ⟨Int.neg_lt_of_neg_lt (by have := Int.tmod_lt_of_pos (-a0) (show (0 : Int) < 576460752303423488 by decide); rw [Int.neg_tmod] at this; exact this), Int.tmod_lt_of_pos _ (by decide)⟩
  generalize a0.tmod 576460752303423488 = n at *
  obtain ⟨n1, n2⟩ := hnr
  have HT := Aside0.mk (text_f n (by omega) (by omega))
  have HAT := Aside0.mk (text_at n)
  have hsz : (textB n).size ≤ 20 := by rw [textB_size]; exact itoa_len n (by omega) (by omega)
  have hpos : 1 ≤ (textB n).size := by
    obtain ⟨c, r, he, _⟩ := itoa_head n
    rw [textB_size, he]
    simp
  have HN := Aside0.mk (text_neg n)
  have HM := Aside0.mk (text_ten n)
  have H0 : Aside0 (n = 0 → textB n = ⟨#[48]⟩) := ⟨fun h => by rw [h]; unfold textB; rw [itoa0]⟩
  obtain ⟨t, ht⟩ : ∃ t, t = textB n := ⟨_, rfl⟩
  rw [← ht] at HT HAT hsz hpos HN HM H0
  clear ht
  refine (num_Text.calls n t w1 (Ld.below HLD.out HB.out) HT.out).mono ?_
  rintro e w2 ⟨rfl, hb⟩
  have HB2 := Aside0.mk (below_then HB.out HB.out.size hb)
  clear hb HB
  go_wp2_with fail
  go_loop [6] (fun i => ∃ k : Nat, k ≤ t.size ∧ i = .int .i64 k) (fun i => t.size - (RowKit.intOf i).toNat)
  case atStart => exact ⟨0, Nat.zero_le _, rfl⟩
  case round =>
    obtain ⟨k, hk, rfl⟩ := hrel
    by_cases hlt : k < t.size
    · obtain ⟨c, e1, hc, _, _⟩ := HAT.out k hlt
      obtain ⟨x, hx⟩ : ∃ x : Int, x = (c : Int) := ⟨_, rfl⟩
      rw [← hx] at e1
      have r1 : ∀ h : k < t.size, ((t[k]'h).toNat : Int) = x := fun h => by rw [← e1]; simpa using bt_at t (k : Int) (by simpa using h)
      clear e1
      rcases hc with hc | ⟨hc, rfl, hn⟩
      · have x2 : 48 ≤ x := by omega
        have x3 : x ≤ 57 := by omega
        clear hx hc
        go_wp2
        go_round
        case rel => exact ⟨k + 1, by omega, by go_num⟩
        case measure => simp [RowKit.intOf]; omega
      · obtain rfl : x = 45 := by omega
        clear hx hc
        go_wp2
        go_round
        case rel => exact ⟨1, by omega, rfl⟩
        case measure => simp [RowKit.intOf]; omega
    · obtain ⟨c, e1, hc, hc1, hc2⟩ := HAT.out 0 (by omega)
      obtain ⟨x, hx⟩ : ∃ x : Int, x = (c : Int) := ⟨_, rfl⟩
      rw [← hx] at e1
      have r1 : ∀ h : 0 < t.size, ((t[0]'h).toNat : Int) = x := fun h => by rw [← e1]; simpa using bt_at t (0 : Int) (by simpa using h)
      have hp : 0 < t.size := by omega
      clear e1
      rcases (by omega : n = 0 ∨ n < 0 ∨ 0 < n) with hn | hn | hn
      · obtain rfl := hn
        have ht := H0.out rfl
        have h1 : (t.toList == ([48] : List UInt8)) = true := by rw [ht, toList_data]; rfl
        have h2 : (t.toList != ([48] : List UInt8)) = false := by rw [ht, toList_data]; rfl
        obtain rfl : x = 48 := by
          have := bt_data (s := t) (k := 0) (c := 48) (by rw [ht]; rfl)
          have e := r1 hp
          change bt t 0 = 48 at this
          have e2 : ((t[0]'hp).toNat : Int) = bt t 0 := bt_at t (0 : Int) (by simpa using hp)
          omega
        clear hx hc hc1 hc2 ht
        go_wp2
        go_quiet (fail)
        go_wp2
        go_ret
        exact ⟨by simp, pw_below_drewN HB2.out _⟩
      · obtain rfl : x = 45 := by have := hc1 rfl hn; omega
        have h0 : ¬ t.toList = ([48] : List UInt8) := fun h => by
          have e2 := bt_data (s := t) (k := 0) (c := 48) (by rw [← toList_data, h]; rfl)
          change bt t 0 = 48 at e2
          have e3 : ((t[0]'hp).toNat : Int) = bt t 0 := bt_at t (0 : Int) (by simpa using hp)
          have e := r1 hp
          omega
        have h1 : (t.toList == ([48] : List UInt8)) = false := beq_eq_false_iff_ne.mpr h0
        have h2 : (t.toList != ([48] : List UInt8)) = true := bne_iff_ne.mpr h0
        have h3 : (n == 0) = false := beq_eq_false_iff_ne.mpr (by omega)
        clear hx hc hc1 hc2 h0
        have HF1 := Aside0.mk (show num_Text.f (n * 10) = some (t ++ (⟨#[48]⟩ : ByteArray)) by rw [← HM.out (by omega)]; exact text_f _ (by omega) (by omega))
        have HF2 := Aside0.mk (show num_Text.f (-n) = some (t.extract 1 t.size) by rw [← HN.out hn]; exact text_f _ (by omega) (by omega))
        have hc9 : t.size + 1 ≤ 9223372036854775807 := by omega
        have hc9b0 : (t.size + 1 ≤ 9223372036854775807) = True := eq_true hc9
        have hc9b1 : decide (t.size + 1 ≤ 9223372036854775807) = true := decide_eq_true hc9
        have hc9b2 : (9223372036854775807 < t.size + 1) = False := eq_false (by omega)
        have b1 : (1 : Int) ≤ (t.size : Int) := by omega
        have b2 : (0 : Int) < (t.size : Int) := by omega
        go_wp2
        have hw1 : IntKind.i64.wrap (n * 10) = n * 10 := IntWalk.i64_in _ (by omega)
        have hw2 : IntKind.i64.wrap (-n) = -n := IntWalk.i64_in _ (by omega)
        go_region_held3 (fun _ => True) (trivial) (first
          | (go_at_call 11; (with_reducible refine (num_Text.calls (n * 10) (t ++ (⟨#[48]⟩ : ByteArray)) _ ?l1 HF1.out).mono ?_); (case l1 => exact Ld.below HLD.out (by repeat (first | exact HB2.out | apply pw_below_drewN | apply below_drew))); rintro e w3 ⟨rfl, hb⟩; have HB3 := Aside0.mk (hb); clear hb)
          | (go_at_call 11; (with_reducible refine (num_Text.calls (-n) (t.extract 1 t.size) _ ?l2 HF2.out).mono ?_); (case l2 => exact Ld.below (Ld.below HLD.out (by repeat (first | exact HB2.out | apply pw_below_drewN | apply below_drew))) HB3.out); rintro e w4 ⟨rfl, hb⟩; have HB4 := Aside0.mk (hb); clear hb))
        go_wp2
        go_ret
        exact ⟨by simp, below_then HB2.out HB2.out.size (below_then (below_drew (Below.refl _ _)) (Nat.le_refl _) (below_then HB3.out HB3.out.size (below_then HB4.out HB4.out.size (Below.refl _ _))))⟩
      · have h49 : 49 ≤ x ∧ x ≤ 57 := by have := hc2 rfl hn; omega
        have x2 : 49 ≤ x := h49.1
        have x3 : x ≤ 57 := h49.2
        have h0 : ¬ t.toList = ([48] : List UInt8) := fun h => by
          have e2 := bt_data (s := t) (k := 0) (c := 48) (by rw [← toList_data, h]; rfl)
          change bt t 0 = 48 at e2
          have e3 : ((t[0]'hp).toNat : Int) = bt t 0 := bt_at t (0 : Int) (by simpa using hp)
          have e := r1 hp
          omega
        have h1 : (t.toList == ([48] : List UInt8)) = false := beq_eq_false_iff_ne.mpr h0
        have h2 : (t.toList != ([48] : List UInt8)) = true := bne_iff_ne.mpr h0
        have h3 : (n == 0) = false := beq_eq_false_iff_ne.mpr (by omega)
        clear hx hc hc1 hc2 h0 h49
        have hq0 : ¬ n < 0 := by omega
        have hq1 : (n < 0) = False := eq_false hq0
        have hq2 : decide (n < 0) = false := decide_eq_false hq0
        have hx1 : ¬ x = 45 := by omega
        have hx2 : (x == 45) = false := beq_eq_false_iff_ne.mpr hx1
        have hx3 : ¬ x = 48 := by omega
        have hx4 : (x != 48) = true := bne_iff_ne.mpr hx3
        have hx5 : (x == 48) = false := beq_eq_false_iff_ne.mpr hx3
        have HF1 := Aside0.mk (show num_Text.f (n * 10) = some (t ++ (⟨#[48]⟩ : ByteArray)) by rw [← HM.out (by omega)]; exact text_f _ (by omega) (by omega))
        have hc9 : t.size + 1 ≤ 9223372036854775807 := by omega
        have hc9b0 : (t.size + 1 ≤ 9223372036854775807) = True := eq_true hc9
        have hc9b1 : decide (t.size + 1 ≤ 9223372036854775807) = true := decide_eq_true hc9
        have hc9b2 : (9223372036854775807 < t.size + 1) = False := eq_false (by omega)
        have b1 : (1 : Int) ≤ (t.size : Int) := by omega
        have b2 : (0 : Int) < (t.size : Int) := by omega
        go_wp2
        have hw1 : IntKind.i64.wrap (n * 10) = n * 10 := IntWalk.i64_in _ (by omega)
        have hw2 : IntKind.i64.wrap (-n) = -n := IntWalk.i64_in _ (by omega)
        refine wp_region_held_drew (S := fun _ => True) (by kernel_rfl) trivial (fun _ => ?_)
        refine' wpAnyH_take (i := 0) (oi := ?oi0) (v := ?v0) ?hi0 (by kernel_rfl) (by kernel_rfl) (by kernel_rfl) ?hq0 ?hy0 trivial ?hr0
        case hi0 => (simp only [List.getElem?_toArray, List.getElem?_cons_succ, List.getElem?_cons_zero]; rfl)
        case hq0 => exact fun _ _ _ h => h
        case hy0 => (first | (refine Or.inr ⟨?_, by rfl⟩; first | rfl | (go_simp; done)) | (refine Or.inl ⟨by rfl, ?_⟩; intro w _; go_simp; first | done | rfl))
        try simp only [Act.put, List.setIfInBounds_toArray, List.set_cons_zero, List.set_cons_succ]
        refine' wpAnyH_take (i := 1) (oi := ?oi1) (v := ?v1) ?hi1 (by kernel_rfl) (by kernel_rfl) (by kernel_rfl) ?hq1 ?hy1 trivial ?hr1
        case hi1 => (simp only [List.getElem?_toArray, List.getElem?_cons_succ, List.getElem?_cons_zero]; rfl)
        case hq1 => exact fun _ _ _ h => h
        case hy1 => (first | (refine Or.inr ⟨?_, by rfl⟩; first | rfl | (go_simp; done)) | (refine Or.inl ⟨by rfl, ?_⟩; intro w _; go_simp; first | done | rfl))
        try simp only [Act.put, List.setIfInBounds_toArray, List.set_cons_zero, List.set_cons_succ]
        refine' wpAnyH_take (i := 2) (oi := ?oi2) (v := ?v2) ?hi2 (by kernel_rfl) (by kernel_rfl) (by kernel_rfl) ?hq2 ?hy2 trivial ?hr2
        case hi2 => (simp only [List.getElem?_toArray, List.getElem?_cons_succ, List.getElem?_cons_zero]; rfl)
        case hq2 => exact fun _ _ _ h => h
        case hy2 => (first | (refine Or.inr ⟨?_, by rfl⟩; first | rfl | (go_simp; done)) | (refine Or.inl ⟨by rfl, ?_⟩; intro w _; go_simp; first | done | rfl))
        try simp only [Act.put, List.setIfInBounds_toArray, List.set_cons_zero, List.set_cons_succ]
        refine' wpAnyH_take (i := 3) (oi := ?oi3) (v := ?v3) ?hi3 (by kernel_rfl) (by kernel_rfl) (by kernel_rfl) ?hq3 ?hy3 trivial ?hr3
        case hi3 => (simp only [List.getElem?_toArray, List.getElem?_cons_succ, List.getElem?_cons_zero]; rfl)
        case hq3 => exact fun _ _ _ h => h
        case hy3 => (first | (refine Or.inr ⟨?_, by rfl⟩; first | rfl | (go_simp; done)) | (refine Or.inl ⟨by rfl, ?_⟩; intro w _; go_simp; first | done | rfl))
        try simp only [Act.put, List.setIfInBounds_toArray, List.set_cons_zero, List.set_cons_succ]
        refine' wpAnyH_take (i := 4) (oi := ?oi4) (v := ?v4) ?hi4 (by kernel_rfl) (by kernel_rfl) (by kernel_rfl) ?hq4 ?hy4 trivial ?hr4
        case hi4 => (simp only [List.getElem?_toArray, List.getElem?_cons_succ, List.getElem?_cons_zero]; rfl)
        case hq4 => exact fun _ _ _ h => h
        case hy4 => (first | (refine Or.inr ⟨?_, by rfl⟩; first | rfl | (go_simp; done)) | (refine Or.inl ⟨by rfl, ?_⟩; intro w _; go_simp; first | done | rfl))
        try simp only [Act.put, List.setIfInBounds_toArray, List.set_cons_zero, List.set_cons_succ]
        refine' wpAnyH_take (i := 5) (oi := ?oi5) (v := ?v5) ?hi5 (by kernel_rfl) (by kernel_rfl) (by kernel_rfl) ?hq5 ?hy5 trivial ?hr5
        case hi5 => (simp only [List.getElem?_toArray, List.getElem?_cons_succ, List.getElem?_cons_zero]; rfl)
        case hq5 => exact fun _ _ _ h => h
        case hy5 => (first | (refine Or.inr ⟨?_, by rfl⟩; first | rfl | (go_simp; done)) | (refine Or.inl ⟨by rfl, ?_⟩; intro w _; go_simp; first | done | rfl))
        try simp only [Act.put, List.setIfInBounds_toArray, List.set_cons_zero, List.set_cons_succ]
        refine' wpAnyH_take (i := 6) (oi := ?oi6) (v := ?v6) ?hi6 (by kernel_rfl) (by kernel_rfl) (by kernel_rfl) ?hq6 ?hy6 trivial ?hr6
        case hi6 => (simp only [List.getElem?_toArray, List.getElem?_cons_succ, List.getElem?_cons_zero]; rfl)
        case hq6 => exact fun _ _ _ h => h
        case hy6 => (first | (refine Or.inr ⟨?_, by rfl⟩; first | rfl | (go_simp; done)) | (refine Or.inl ⟨by rfl, ?_⟩; intro w _; go_simp; first | done | rfl))
        try simp only [Act.put, List.setIfInBounds_toArray, List.set_cons_zero, List.set_cons_succ]
        refine' wpAnyH_take (i := 7) (oi := ?oi7) (v := ?v7) ?hi7 (by kernel_rfl) (by kernel_rfl) (by kernel_rfl) ?hq7 ?hy7 trivial ?hr7
        case hi7 => (simp only [List.getElem?_toArray, List.getElem?_cons_succ, List.getElem?_cons_zero]; rfl)
        case hq7 => exact fun _ _ _ h => h
        case hy7 => (first | (refine Or.inr ⟨?_, by rfl⟩; first | rfl | (go_simp; done)) | (refine Or.inl ⟨by rfl, ?_⟩; intro w _; go_simp; first | done | rfl))
        try simp only [Act.put, List.setIfInBounds_toArray, List.set_cons_zero, List.set_cons_succ]
        refine' wpAnyH_take (i := 8) (oi := ?oi8) (v := ?v8) ?hi8 (by kernel_rfl) (by kernel_rfl) (by kernel_rfl) ?hq8 ?hy8 trivial ?hr8
        case hi8 => (simp only [List.getElem?_toArray, List.getElem?_cons_succ, List.getElem?_cons_zero]; rfl)
        case hq8 => exact fun _ _ _ h => h
        case hy8 => (first | (refine Or.inr ⟨?_, by rfl⟩; first | rfl | (go_simp; done)) | (refine Or.inl ⟨by rfl, ?_⟩; intro w _; go_simp; first | done | rfl))
        try simp only [Act.put, List.setIfInBounds_toArray, List.set_cons_zero, List.set_cons_succ]
        refine' wpAnyH_take (i := 9) (oi := ?oi9) (v := ?v9) ?hi9 (by kernel_rfl) (by kernel_rfl) (by kernel_rfl) ?hq9 ?hy9 trivial ?hr9
        case hi9 => (simp only [List.getElem?_toArray, List.getElem?_cons_succ, List.getElem?_cons_zero]; rfl)
        case hq9 => exact fun _ _ _ h => h
        case hy9 => (first | (refine Or.inr ⟨?_, by rfl⟩; first | rfl | (go_simp; done)) | (refine Or.inl ⟨by rfl, ?_⟩; intro w _; go_simp; first | done | rfl))
        try simp only [Act.put, List.setIfInBounds_toArray, List.set_cons_zero, List.set_cons_succ]
        refine' wpAnyH_take (i := 10) (oi := ?oi10) (v := ?v10) ?hi10 (by kernel_rfl) (by kernel_rfl) (by kernel_rfl) ?hq10 ?hy10 trivial ?hr10
        case hi10 => (simp only [List.getElem?_toArray, List.getElem?_cons_succ, List.getElem?_cons_zero]; rfl)
        case hq10 => exact fun _ _ _ h => h
        case hy10 => (first | (refine Or.inr ⟨?_, by rfl⟩; first | rfl | (go_simp; done)) | (refine Or.inl ⟨by rfl, ?_⟩; intro w _; go_simp; first | done | rfl))
        try simp only [Act.put, List.setIfInBounds_toArray, List.set_cons_zero, List.set_cons_succ]
        refine' wpAnyH_take (i := 11) (oi := ?oi11) (v := ?v11) ?hi11 (by kernel_rfl) (by kernel_rfl) (by kernel_rfl) ?hq11 ?hy11 trivial ?hr11
        case hi11 => (simp only [List.getElem?_toArray, List.getElem?_cons_succ, List.getElem?_cons_zero]; rfl)
        case hq11 => exact fun _ _ _ h => h
        case hy11 => (first | (refine Or.inr ⟨?_, by rfl⟩; first | rfl | (go_simp; done)) | (refine Or.inl ⟨by rfl, ?_⟩; intro w _; go_simp; first | done | rfl))
        try simp only [Act.put, List.setIfInBounds_toArray, List.set_cons_zero, List.set_cons_succ]
        refine' wpAnyH_take (i := 12) (oi := ?oi12) (v := ?v12) ?hi12 (by kernel_rfl) (by kernel_rfl) (by kernel_rfl) ?hq12 ?hy12 trivial ?hr12
        case hi12 => (simp only [List.getElem?_toArray, List.getElem?_cons_succ, List.getElem?_cons_zero]; rfl)
        case hq12 => exact fun _ _ _ h => h
        case hy12 => (first | (refine Or.inr ⟨?_, by rfl⟩; first | rfl | (go_simp; done)) | (refine Or.inl ⟨by rfl, ?_⟩; intro w _; go_simp; first | done | rfl))
        try simp only [Act.put, List.setIfInBounds_toArray, List.set_cons_zero, List.set_cons_succ]
        refine' wpAnyH_take (i := 13) (oi := ?oi13) (v := ?v13) ?hi13 (by kernel_rfl) (by kernel_rfl) (by kernel_rfl) ?hq13 ?hy13 trivial ?hr13
        case hi13 => (simp only [List.getElem?_toArray, List.getElem?_cons_succ, List.getElem?_cons_zero]; rfl)
        case hq13 => exact fun _ _ _ h => h
        case hy13 => (first | (refine Or.inr ⟨?_, by rfl⟩; first | rfl | (go_simp; done)) | (refine Or.inl ⟨by rfl, ?_⟩; intro w _; go_simp; first | done | rfl))
        try simp only [Act.put, List.setIfInBounds_toArray, List.set_cons_zero, List.set_cons_succ]
        refine' wpAnyH_take (i := 14) (oi := ?oi14) (v := ?v14) ?hi14 (by kernel_rfl) (by kernel_rfl) (by kernel_rfl) ?hq14 ?hy14 trivial ?hr14
        case hi14 => (simp only [List.getElem?_toArray, List.getElem?_cons_succ, List.getElem?_cons_zero]; rfl)
        case hq14 => exact fun _ _ _ h => h
        case hy14 => (first | (refine Or.inr ⟨?_, by rfl⟩; first | rfl | (go_simp; done)) | (refine Or.inl ⟨by rfl, ?_⟩; intro w _; go_simp; first | done | rfl))
        try simp only [Act.put, List.setIfInBounds_toArray, List.set_cons_zero, List.set_cons_succ]
        refine' wpAnyH_take (i := 15) (oi := ?oi15) (v := ?v15) ?hi15 (by kernel_rfl) (by kernel_rfl) (by kernel_rfl) ?hq15 ?hy15 trivial ?hr15
        case hi15 => (simp only [List.getElem?_toArray, List.getElem?_cons_succ, List.getElem?_cons_zero]; rfl)
        case hq15 => exact fun _ _ _ h => h
        case hy15 => (first | (refine Or.inr ⟨?_, by rfl⟩; first | rfl | (go_simp; done)) | (refine Or.inl ⟨by rfl, ?_⟩; intro w _; go_simp; first | done | rfl))
        try simp only [Act.put, List.setIfInBounds_toArray, List.set_cons_zero, List.set_cons_succ]
        refine' wpAnyH_take (i := 16) (oi := ?oi16) (v := ?v16) ?hi16 (by kernel_rfl) (by kernel_rfl) (by kernel_rfl) ?hq16 ?hy16 trivial ?hr16
        case hi16 => (simp only [List.getElem?_toArray, List.getElem?_cons_succ, List.getElem?_cons_zero]; rfl)
        case hq16 => exact fun _ _ _ h => h
        case hy16 => (first | (refine Or.inr ⟨?_, by rfl⟩; first | rfl | (go_simp; done)) | (refine Or.inl ⟨by rfl, ?_⟩; intro w _; go_simp; first | done | rfl))
        try simp only [Act.put, List.setIfInBounds_toArray, List.set_cons_zero, List.set_cons_succ]
        refine' wpAnyH_take (i := 17) (oi := ?oi17) (v := ?v17) ?hi17 (by kernel_rfl) (by kernel_rfl) (by kernel_rfl) ?hq17 ?hy17 trivial ?hr17
        case hi17 => (simp only [List.getElem?_toArray, List.getElem?_cons_succ, List.getElem?_cons_zero]; rfl)
        case hq17 => exact fun _ _ _ h => h
        case hy17 => (first | (refine Or.inr ⟨?_, by rfl⟩; first | rfl | (go_simp; done)) | (refine Or.inl ⟨by rfl, ?_⟩; intro w _; go_simp; first | done | rfl))
        try simp only [Act.put, List.setIfInBounds_toArray, List.set_cons_zero, List.set_cons_succ]
        refine' wpAnyH_take (i := 18) (oi := ?oi18) (v := ?v18) ?hi18 (by kernel_rfl) (by kernel_rfl) (by kernel_rfl) ?hq18 ?hy18 trivial ?hr18
        case hi18 => (simp only [List.getElem?_toArray, List.getElem?_cons_succ, List.getElem?_cons_zero]; rfl)
        case hq18 => exact fun _ _ _ h => h
        case hy18 => (first | (refine Or.inr ⟨?_, by rfl⟩; first | rfl | (go_simp; done)) | (refine Or.inl ⟨by rfl, ?_⟩; intro w _; go_simp; first | done | rfl))
        try simp only [Act.put, List.setIfInBounds_toArray, List.set_cons_zero, List.set_cons_succ]
        refine' wpAnyH_take (i := 19) (oi := ?oi19) (v := ?v19) ?hi19 (by kernel_rfl) (by kernel_rfl) (by kernel_rfl) ?hq19 ?hy19 trivial ?hr19
        case hi19 => (simp only [List.getElem?_toArray, List.getElem?_cons_succ, List.getElem?_cons_zero]; rfl)
        case hq19 => exact fun _ _ _ h => h
        case hy19 => (first | (refine Or.inr ⟨?_, by rfl⟩; first | rfl | (go_simp; done)) | (refine Or.inl ⟨by rfl, ?_⟩; intro w _; go_simp; first | done | rfl))
        try simp only [Act.put, List.setIfInBounds_toArray, List.set_cons_zero, List.set_cons_succ]
        refine' wpAnyH_take (i := 20) (oi := ?oi20) (v := ?v20) ?hi20 (by kernel_rfl) (by kernel_rfl) (by kernel_rfl) ?hq20 ?hy20 trivial ?hr20
        case hi20 => (simp only [List.getElem?_toArray, List.getElem?_cons_succ, List.getElem?_cons_zero]; rfl)
        case hq20 => exact fun _ _ _ h => h
        case hy20 => (first | (refine Or.inr ⟨?_, by rfl⟩; first | rfl | (go_simp; done)) | (refine Or.inl ⟨by rfl, ?_⟩; intro w _; go_simp; first | done | rfl))
        try simp only [Act.put, List.setIfInBounds_toArray, List.set_cons_zero, List.set_cons_succ]
        refine' wpAnyH_take (i := 21) (oi := ?oi21) (v := ?v21) ?hi21 (by kernel_rfl) (by kernel_rfl) (by kernel_rfl) ?hq21 ?hy21 trivial ?hr21
        case hi21 => (simp only [List.getElem?_toArray, List.getElem?_cons_succ, List.getElem?_cons_zero]; rfl)
        case hq21 => exact fun _ _ _ h => h
        case hy21 => (first | (refine Or.inr ⟨?_, by rfl⟩; first | rfl | (go_simp; done)) | (refine Or.inl ⟨by rfl, ?_⟩; intro w _; go_simp; first | done | rfl))
        try simp only [Act.put, List.setIfInBounds_toArray, List.set_cons_zero, List.set_cons_succ]
        refine' wpAnyH_take (i := 22) (oi := ?oi22) (v := ?v22) ?hi22 (by kernel_rfl) (by kernel_rfl) (by kernel_rfl) ?hq22 ?hy22 trivial ?hr22
        case hi22 => (simp only [List.getElem?_toArray, List.getElem?_cons_succ, List.getElem?_cons_zero]; rfl)
        case hq22 => exact fun _ _ _ h => h
        case hy22 => (first | (refine Or.inr ⟨?_, by rfl⟩; first | rfl | (go_simp; done)) | (refine Or.inl ⟨by rfl, ?_⟩; intro w _; go_simp; first | done | rfl))
        try simp only [Act.put, List.setIfInBounds_toArray, List.set_cons_zero, List.set_cons_succ]
        refine' wpAnyH_take (i := 24) (oi := ?oi24) (v := ?v24) ?hi24 (by kernel_rfl) (by kernel_rfl) (by kernel_rfl) ?hq24 ?hy24 trivial ?hr24
        case hi24 => (simp only [List.getElem?_toArray, List.getElem?_cons_succ, List.getElem?_cons_zero]; rfl)
        case hq24 => exact fun _ _ _ h => h
        case hy24 => (first | (refine Or.inr ⟨?_, by rfl⟩; first | rfl | (go_simp; done)) | (refine Or.inl ⟨by rfl, ?_⟩; intro w _; go_simp; first | done | rfl))
        try simp only [Act.put, List.setIfInBounds_toArray, List.set_cons_zero, List.set_cons_succ]
        refine' wpAnyH_take (i := 25) (oi := ?oi25) (v := ?v25) ?hi25 (by kernel_rfl) (by kernel_rfl) (by kernel_rfl) ?hq25 ?hy25 trivial ?hr25
        case hi25 => (simp only [List.getElem?_toArray, List.getElem?_cons_succ, List.getElem?_cons_zero]; rfl)
        case hq25 => exact fun _ _ _ h => h
        case hy25 => (first | (refine Or.inr ⟨?_, by rfl⟩; first | rfl | (go_simp; done)) | (refine Or.inl ⟨by rfl, ?_⟩; intro w _; go_simp; first | done | rfl))
        try simp only [Act.put, List.setIfInBounds_toArray, List.set_cons_zero, List.set_cons_succ]
        refine wpAnyH_ready (rs := [23]) (by kernel_rfl) (by simp) ?_
        refine AllReadyH.cons (o := ?oi23) ?hi23 (fun K hK => ?hs23) AllReadyH.nil
        case hi23 => (simp only [List.getElem?_toArray, List.getElem?_cons_succ, List.getElem?_cons_zero]; rfl)
        go_simp
        (go_at_call 11; (with_reducible refine (num_Text.calls (n * 10) (t ++ (⟨#[48]⟩ : ByteArray)) _ ?l1 HF1.out).mono ?_); (case l1 => exact Ld.below HLD.out (by repeat (first | exact HB2.out | apply pw_below_drewN | apply below_drew))); rintro e w3 ⟨rfl, hb⟩; have HB3 := Aside0.mk (hb); clear hb)
        try go_wp2_with fail
        refine hK.out _ _ trivial (fun _ => ?_)
        clear hK K
        try simp only [Act.put, List.setIfInBounds_toArray, List.set_cons_zero, List.set_cons_succ]
        refine' wpAnyH_take (i := 26) (oi := ?oi26) (v := ?v26) ?hi26 (by kernel_rfl) (by kernel_rfl) (by kernel_rfl) ?hq26 ?hy26 trivial ?hr26
        case hi26 => (simp only [List.getElem?_toArray, List.getElem?_cons_succ, List.getElem?_cons_zero]; rfl)
        case hq26 => exact fun _ _ _ h => h
        case hy26 => (first | (refine Or.inr ⟨?_, by rfl⟩; first | rfl | (go_simp; done)) | (refine Or.inl ⟨by rfl, ?_⟩; intro w _; go_simp; first | done | rfl))
        try simp only [Act.put, List.setIfInBounds_toArray, List.set_cons_zero, List.set_cons_succ]
        refine' wpAnyH_take (i := 27) (oi := ?oi27) (v := ?v27) ?hi27 (by kernel_rfl) (by kernel_rfl) (by kernel_rfl) ?hq27 ?hy27 trivial ?hr27
        case hi27 => (simp only [List.getElem?_toArray, List.getElem?_cons_succ, List.getElem?_cons_zero]; rfl)
        case hq27 => exact fun _ _ _ h => h
        case hy27 => (first | (refine Or.inr ⟨?_, by rfl⟩; first | rfl | (go_simp; done)) | (refine Or.inl ⟨by rfl, ?_⟩; intro w _; go_simp; first | done | rfl))
        try simp only [Act.put, List.setIfInBounds_toArray, List.set_cons_zero, List.set_cons_succ]
        refine' wpAnyH_take (i := 28) (oi := ?oi28) (v := ?v28) ?hi28 (by kernel_rfl) (by kernel_rfl) (by kernel_rfl) ?hq28 ?hy28 trivial ?hr28
        case hi28 => (simp only [List.getElem?_toArray, List.getElem?_cons_succ, List.getElem?_cons_zero]; rfl)
        case hq28 => exact fun _ _ _ h => h
        case hy28 => (first | (refine Or.inr ⟨?_, by rfl⟩; first | rfl | (go_simp; done)) | (refine Or.inl ⟨by rfl, ?_⟩; intro w _; go_simp; first | done | rfl))
        try simp only [Act.put, List.setIfInBounds_toArray, List.set_cons_zero, List.set_cons_succ]
        refine' wpAnyH_take (i := 29) (oi := ?oi29) (v := ?v29) ?hi29 (by kernel_rfl) (by kernel_rfl) (by kernel_rfl) ?hq29 ?hy29 trivial ?hr29
        case hi29 => (simp only [List.getElem?_toArray, List.getElem?_cons_succ, List.getElem?_cons_zero]; rfl)
        case hq29 => exact fun _ _ _ h => h
        case hy29 => (first | (refine Or.inr ⟨?_, by rfl⟩; first | rfl | (go_simp; done)) | (refine Or.inl ⟨by rfl, ?_⟩; intro w _; go_simp; first | done | rfl))
        try simp only [Act.put, List.setIfInBounds_toArray, List.set_cons_zero, List.set_cons_succ]
        refine' wpAnyH_take (i := 30) (oi := ?oi30) (v := ?v30) ?hi30 (by kernel_rfl) (by kernel_rfl) (by kernel_rfl) ?hq30 ?hy30 trivial ?hr30
        case hi30 => (simp only [List.getElem?_toArray, List.getElem?_cons_succ, List.getElem?_cons_zero]; rfl)
        case hq30 => exact fun _ _ _ h => h
        case hy30 => (first | (refine Or.inr ⟨?_, by rfl⟩; first | rfl | (go_simp; done)) | (refine Or.inl ⟨by rfl, ?_⟩; intro w _; go_simp; first | done | rfl))
        try simp only [Act.put, List.setIfInBounds_toArray, List.set_cons_zero, List.set_cons_succ]
        refine' wpAnyH_take (i := 31) (oi := ?oi31) (v := ?v31) ?hi31 (by kernel_rfl) (by kernel_rfl) (by kernel_rfl) ?hq31 ?hy31 trivial ?hr31
        case hi31 => (simp only [List.getElem?_toArray, List.getElem?_cons_succ, List.getElem?_cons_zero]; rfl)
        case hq31 => exact fun _ _ _ h => h
        case hy31 => (first | (refine Or.inr ⟨?_, by rfl⟩; first | rfl | (go_simp; done)) | (refine Or.inl ⟨by rfl, ?_⟩; intro w _; go_simp; first | done | rfl))
        try simp only [Act.put, List.setIfInBounds_toArray, List.set_cons_zero, List.set_cons_succ]
        refine' wpAnyH_take (i := 32) (oi := ?oi32) (v := ?v32) ?hi32 (by kernel_rfl) (by kernel_rfl) (by kernel_rfl) ?hq32 ?hy32 trivial ?hr32
        case hi32 => (simp only [List.getElem?_toArray, List.getElem?_cons_succ, List.getElem?_cons_zero]; rfl)
        case hq32 => exact fun _ _ _ h => h
        case hy32 => (first | (refine Or.inr ⟨?_, by rfl⟩; first | rfl | (go_simp; done)) | (refine Or.inl ⟨by rfl, ?_⟩; intro w _; go_simp; first | done | rfl))
        try simp only [Act.put, List.setIfInBounds_toArray, List.set_cons_zero, List.set_cons_succ]
        refine' wpAnyH_take (i := 33) (oi := ?oi33) (v := ?v33) ?hi33 (by kernel_rfl) (by kernel_rfl) (by kernel_rfl) ?hq33 ?hy33 trivial ?hr33
        case hi33 => (simp only [List.getElem?_toArray, List.getElem?_cons_succ, List.getElem?_cons_zero]; rfl)
        case hq33 => exact fun _ _ _ h => h
        case hy33 => (first | (refine Or.inr ⟨?_, by rfl⟩; first | rfl | (go_simp; done)) | (refine Or.inl ⟨by rfl, ?_⟩; intro w _; go_simp; first | done | rfl))
        try simp only [Act.put, List.setIfInBounds_toArray, List.set_cons_zero, List.set_cons_succ]
        refine' wpAnyH_take (i := 34) (oi := ?oi34) (v := ?v34) ?hi34 (by kernel_rfl) (by kernel_rfl) (by kernel_rfl) ?hq34 ?hy34 trivial ?hr34
        case hi34 => (simp only [List.getElem?_toArray, List.getElem?_cons_succ, List.getElem?_cons_zero]; rfl)
        case hq34 => exact fun _ _ _ h => h
        case hy34 => (first | (refine Or.inr ⟨?_, by rfl⟩; first | rfl | (go_simp; done)) | (refine Or.inl ⟨by rfl, ?_⟩; intro w _; go_simp; first | done | rfl))
        try simp only [Act.put, List.setIfInBounds_toArray, List.set_cons_zero, List.set_cons_succ]
        refine' wpAnyH_take (i := 35) (oi := ?oi35) (v := ?v35) ?hi35 (by kernel_rfl) (by kernel_rfl) (by kernel_rfl) ?hq35 ?hy35 trivial ?hr35
        case hi35 => (simp only [List.getElem?_toArray, List.getElem?_cons_succ, List.getElem?_cons_zero]; rfl)
        case hq35 => exact fun _ _ _ h => h
        case hy35 => (first | (refine Or.inr ⟨?_, by rfl⟩; first | rfl | (go_simp; done)) | (refine Or.inl ⟨by rfl, ?_⟩; intro w _; go_simp; first | done | rfl))
        try simp only [Act.put, List.setIfInBounds_toArray, List.set_cons_zero, List.set_cons_succ]
        refine' wpAnyH_take (i := 36) (oi := ?oi36) (v := ?v36) ?hi36 (by kernel_rfl) (by kernel_rfl) (by kernel_rfl) ?hq36 ?hy36 trivial ?hr36
        case hi36 => (simp only [List.getElem?_toArray, List.getElem?_cons_succ, List.getElem?_cons_zero]; rfl)
        case hq36 => exact fun _ _ _ h => h
        case hy36 => (first | (refine Or.inr ⟨?_, by rfl⟩; first | rfl | (go_simp; done)) | (refine Or.inl ⟨by rfl, ?_⟩; intro w _; go_simp; first | done | rfl))
        try simp only [Act.put, List.setIfInBounds_toArray, List.set_cons_zero, List.set_cons_succ]
        refine' wpAnyH_take (i := 37) (oi := ?oi37) (v := ?v37) ?hi37 (by kernel_rfl) (by kernel_rfl) (by kernel_rfl) ?hq37 ?hy37 trivial ?hr37
        case hi37 => (simp only [List.getElem?_toArray, List.getElem?_cons_succ, List.getElem?_cons_zero]; rfl)
        case hq37 => exact fun _ _ _ h => h
        case hy37 => (first | (refine Or.inr ⟨?_, by rfl⟩; first | rfl | (go_simp; done)) | (refine Or.inl ⟨by rfl, ?_⟩; intro w _; go_simp; first | done | rfl))
        try simp only [Act.put, List.setIfInBounds_toArray, List.set_cons_zero, List.set_cons_succ]
        refine' wpAnyH_take (i := 38) (oi := ?oi38) (v := ?v38) ?hi38 (by kernel_rfl) (by kernel_rfl) (by kernel_rfl) ?hq38 ?hy38 trivial ?hr38
        case hi38 => (simp only [List.getElem?_toArray, List.getElem?_cons_succ, List.getElem?_cons_zero]; rfl)
        case hq38 => exact fun _ _ _ h => h
        case hy38 => (first | (refine Or.inr ⟨?_, by rfl⟩; first | rfl | (go_simp; done)) | (refine Or.inl ⟨by rfl, ?_⟩; intro w _; go_simp; first | done | rfl))
        try simp only [Act.put, List.setIfInBounds_toArray, List.set_cons_zero, List.set_cons_succ]
        refine' wpAnyH_take (i := 39) (oi := ?oi39) (v := ?v39) ?hi39 (by kernel_rfl) (by kernel_rfl) (by kernel_rfl) ?hq39 ?hy39 trivial ?hr39
        case hi39 => (simp only [List.getElem?_toArray, List.getElem?_cons_succ, List.getElem?_cons_zero]; rfl)
        case hq39 => exact fun _ _ _ h => h
        case hy39 => (first | (refine Or.inr ⟨?_, by rfl⟩; first | rfl | (go_simp; done)) | (refine Or.inl ⟨by rfl, ?_⟩; intro w _; go_simp; first | done | rfl))
        try simp only [Act.put, List.setIfInBounds_toArray, List.set_cons_zero, List.set_cons_succ]
        refine' wpAnyH_take (i := 40) (oi := ?oi40) (v := ?v40) ?hi40 (by kernel_rfl) (by kernel_rfl) (by kernel_rfl) ?hq40 ?hy40 trivial ?hr40
        case hi40 => (simp only [List.getElem?_toArray, List.getElem?_cons_succ, List.getElem?_cons_zero]; rfl)
        case hq40 => exact fun _ _ _ h => h
        case hy40 => (first | (refine Or.inr ⟨?_, by rfl⟩; first | rfl | (go_simp; done)) | (refine Or.inl ⟨by rfl, ?_⟩; intro w _; go_simp; first | done | rfl))
        try simp only [Act.put, List.setIfInBounds_toArray, List.set_cons_zero, List.set_cons_succ]
        refine' wpAnyH_take (i := 41) (oi := ?oi41) (v := ?v41) ?hi41 (by kernel_rfl) (by kernel_rfl) (by kernel_rfl) ?hq41 ?hy41 trivial ?hr41
        case hi41 => (simp only [List.getElem?_toArray, List.getElem?_cons_succ, List.getElem?_cons_zero]; rfl)
        case hq41 => exact fun _ _ _ h => h
        case hy41 => (first | (refine Or.inr ⟨?_, by rfl⟩; first | rfl | (go_simp; done)) | (refine Or.inl ⟨by rfl, ?_⟩; intro w _; go_simp; first | done | rfl))
        try simp only [Act.put, List.setIfInBounds_toArray, List.set_cons_zero, List.set_cons_succ]
        refine wpAnyH_done (by kernel_rfl) ?_ _
        all_goals go_wp2
        all_goals go_ret
        all_goals exact ⟨by simp, below_then HB2.out HB2.out.size (below_then (below_drew (Below.refl _ _)) (Nat.le_refl _) (below_then HB3.out HB3.out.size (Below.refl _ _)))⟩
end Go.Proofs.YtccgjpfkepamfaaDoor.X
