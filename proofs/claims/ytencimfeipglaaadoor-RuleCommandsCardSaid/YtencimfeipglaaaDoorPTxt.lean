/- Plain: numbers as digits and back; small letters; words. -/
import Derived.Test.YtencimfeipglaaaDoorENum
import Derived.Test.YtencimfeipglaaaDoorELow
import Derived.Test.YtencimfeipglaaaDoorEWord
set_option linter.unusedVariables false
set_option linter.unusedSimpArgs false
namespace Go.Proofs.YtencimfeipglaaaDoor.X
open Go.Lib

theorem size_mk (l : List UInt8) : (⟨l.toArray⟩ : ByteArray).size = l.length := by
  show l.toArray.size = _
  simp
theorem data_mk (l : List UInt8) : (⟨l.toArray⟩ : ByteArray).data.toList = l := by simp
theorem mk_data (s : ByteArray) : (⟨s.data.toList.toArray⟩ : ByteArray) = s := by cases s; simp
theorem str_ext' {s t : ByteArray} (h : s.data.toList = t.data.toList) : s = t := str_ext (by rw [toList_data, toList_data, h])
theorem app_data (s t : ByteArray) : (s ++ t).data.toList = s.data.toList ++ t.data.toList := by
  rw [ByteArray.data_append, Array.toList_append]
theorem size_data (s : ByteArray) : s.data.toList.length = s.size := by rw [Array.length_toList]; rfl

theorem decD (u : Nat) : decDigits u = if u < 10 then [UInt8.ofNat (48 + u)] else decDigits (u / 10) ++ [UInt8.ofNat (48 + u % 10)] := by
  conv => lhs; rw [decDigits]
  split <;> rfl
theorem ofNat_dig {d : Nat} (h : d < 10) : (UInt8.ofNat (48 + d)).toNat = 48 + d := by
  rw [UInt8.toNat_ofNat']
  omega

/-- Digits alone. -/
theorem dec_digit : ∀ u, ∀ c ∈ decDigits u, 48 ≤ c.toNat ∧ c.toNat ≤ 57 := by
  intro u
  induction u using Nat.strongRecOn with
  | _ u ih =>
    intro c hc
    rw [decD] at hc
    split at hc
    · rw [List.mem_singleton.1 hc, ofNat_dig (by omega)]; omega
    · rcases List.mem_append.1 hc with hc | hc
      · exact ih _ (by omega) c hc
      · rw [List.mem_singleton.1 hc, ofNat_dig (by omega)]; omega
theorem dec_ne (u : Nat) : decDigits u ≠ [] := by
  rw [decD]
  split <;> simp
/-- No nought ahead. -/
theorem dec_nought : ∀ u r, decDigits u = 48 :: r → u = 0 ∧ r = [] := by
  intro u
  induction u using Nat.strongRecOn with
  | _ u ih =>
    intro r hr
    rw [decD] at hr
    split at hr
    · rename_i h
      injection hr with h1 h2
      have := congrArg UInt8.toNat h1
      rw [ofNat_dig h] at this
      have e : (48 : UInt8).toNat = 48 := rfl
      exact ⟨by omega, h2.symm⟩
    · rename_i h
      cases hd : decDigits (u / 10) with
      | nil => exact absurd hd (dec_ne _)
      | cons c l =>
        rw [hd, List.cons_append] at hr
        injection hr with h1 h2
        subst h1
        have := (ih (u / 10) (by omega) l hd).1
        omega
theorem dec_len : ∀ k u, 0 < k → u < 10 ^ k → (decDigits u).length ≤ k := by
  intro k
  induction k with
  | zero => intro u h; omega
  | succ k ih =>
    intro u _ hu
    rw [decD]
    split
    · simp
    · rename_i h
      have hk : 0 < k := by
        rcases Nat.eq_zero_or_pos k with h0 | h0
        · subst h0; simp at hu; omega
        · exact h0
      have := ih (u / 10) hk (by rw [Nat.pow_succ] at hu; omega)
      simp
      omega

/-- One digit more. -/
theorem parse_snoc : ∀ (l : List UInt8) (acc : Nat) (c : UInt8) (v : Nat), parseUint10 acc l = .ok v → 48 ≤ c.toNat → c.toNat ≤ 57 → v * 10 + (c.toNat - 48) < 18446744073709551616 →
    parseUint10 acc (l ++ [c]) = .ok (v * 10 + (c.toNat - 48))
  | [], acc, c, v, h, h1, h2, h3 => by
    simp only [parseUint10] at h
    injection h with h
    subst h
    show parseUint10 acc [c] = _
    unfold parseUint10
    rw [if_pos ⟨h1, h2⟩, if_neg (by omega), if_neg (by omega)]
    rfl
  | d :: l, acc, c, v, h, h1, h2, h3 => by
    rw [List.cons_append]
    unfold parseUint10 at h ⊢
    split at h
    · rename_i hd
      rw [if_pos hd]
      split at h
      · cases h
      · rename_i ha
        rw [if_neg ha]
        split at h
        · cases h
        · rename_i hb
          rw [if_neg hb]
          exact parse_snoc l _ c v h h1 h2 h3
    · cases h
theorem parse_dec : ∀ u, u < 18446744073709551616 → parseUint10 0 (decDigits u) = .ok u := by
  intro u
  induction u using Nat.strongRecOn with
  | _ u ih =>
    intro hu
    rw [decD]
    split
    · rename_i h
      have := parse_snoc [] 0 (UInt8.ofNat (48 + u)) 0 rfl (by rw [ofNat_dig h]; omega) (by rw [ofNat_dig h]; omega) (by rw [ofNat_dig h]; omega)
      rw [ofNat_dig h] at this
      simpa using this
    · rename_i h
      have := parse_snoc _ 0 (UInt8.ofNat (48 + u % 10)) (u / 10) (ih (u / 10) (by omega) (by omega)) (by rw [ofNat_dig (by omega)]; omega) (by rw [ofNat_dig (by omega)]; omega) (by rw [ofNat_dig (by omega)]; omega)
      rw [this, ofNat_dig (by omega)]
      congr 1
      omega

theorem textB_data (n : Int) : (textB n).data.toList = itoa n := by unfold textB; simp
/-- What was told as digits is taken. -/
theorem atoi_itoa (n : Int) (h0 : -9223372036854775808 ≤ n) (h1 : n ≤ 9223372036854775807) : atoiAll (itoa n) = .ok n := by
  unfold itoa
  split
  · rename_i hn
    have hp : parseMag (decDigits n.natAbs) = .ok n.natAbs := by
      unfold parseMag
      rw [if_neg (dec_ne _), parse_dec _ (by omega)]
    simp only [atoiAll]
    have e45 : (45 : UInt8).toNat = 45 := rfl
    rw [if_pos (by omega), hp]
    simp only [e45]
    rw [if_neg (show ¬ (¬ True ∧ 9223372036854775808 ≤ n.natAbs) from fun h => h.1 trivial)]
    rw [if_neg (fun h => by omega), if_pos trivial]
    congr 1
    omega
  · rename_i hn
    have hp : parseMag (decDigits n.toNat) = .ok n.toNat := by
      unfold parseMag
      rw [if_neg (dec_ne _), parse_dec _ (by omega)]
    cases hd : decDigits n.toNat with
    | nil => exact absurd hd (dec_ne _)
    | cons c r =>
      have hc := dec_digit n.toNat c (by rw [hd]; simp)
      rw [hd] at hp
      simp only [atoiAll]
      rw [if_neg (show ¬ (c.toNat = 43 ∨ c.toNat = 45) by omega), hp]
      simp only []
      have hc45 : ¬ c.toNat = 45 := by omega
      rw [if_neg (fun h => by omega), if_neg (fun h => hc45 h.1), if_neg hc45]
      congr 1
      omega
theorem parse_text (n : Int) (h0 : -9223372036854775808 ≤ n) (h1 : n ≤ 9223372036854775807) : parseB (textB n) = (n, true) := by
  unfold parseB
  rw [textB_data, atoi_itoa n h0 h1]
  simp
/-- What is taken is told so. -/
theorem parse_true {s : ByteArray} {v : Int} (h : parseB s = (v, true)) : textB v = s ∧ -9223372036854775808 ≤ v ∧ v ≤ 9223372036854775807 := by
  unfold parseB at h
  split at h
  · rename_i u hu
    split at h
    · rename_i ht
      cases h
      have := atoiAll_bounds hu
      exact ⟨ht, this.1, by omega⟩
    · cases h
  · cases h
theorem parse_cases (s : ByteArray) : (∃ v, parseB s = (v, true) ∧ textB v = s ∧ -9223372036854775808 ≤ v ∧ v ≤ 9223372036854775807) ∨ parseB s = (0, false) := by
  unfold parseB
  split
  · rename_i u hu
    split
    · rename_i ht
      have := atoiAll_bounds hu
      exact .inl ⟨u, rfl, ht, this.1, by omega⟩
    · exact .inr rfl
  · exact .inr rfl
theorem parse_false {s : ByteArray} (h : ∀ v, -9223372036854775808 ≤ v → v ≤ 9223372036854775807 → itoa v ≠ s.data.toList) : parseB s = (0, false) := by
  rcases parse_cases s with ⟨v, _, h1, h2, h3⟩ | h1
  · exact absurd (by rw [← h1, textB_data]) (h v h2 h3)
  · exact h1

/-- A told number's bytes. -/
theorem itoa_head (v : Int) : ∃ c r, itoa v = c :: r ∧ (c = 45 ∨ (48 ≤ c.toNat ∧ c.toNat ≤ 57)) ∧ (∀ d ∈ r, 48 ≤ d.toNat ∧ d.toNat ≤ 57) ∧ (c = 48 → v = 0 ∧ r = []) ∧ (c = 45 ↔ v < 0) ∧ (c = 45 → r ≠ []) := by
  unfold itoa
  split
  · rename_i h
    exact ⟨45, _, rfl, .inl rfl, dec_digit _, fun e => absurd e (by decide), ⟨fun _ => h, fun _ => rfl⟩, fun _ => dec_ne _⟩
  · rename_i h
    cases hd : decDigits v.toNat with
    | nil => exact absurd hd (dec_ne _)
    | cons c r =>
      have hc := dec_digit v.toNat
      rw [hd] at hc
      have hc0 := hc c (by simp)
      have h45 : c ≠ 45 := fun e => by
        subst e
        exact absurd hc0.1 (by decide)
      refine ⟨c, r, rfl, .inr hc0, fun d hm => hc d (by simp [hm]), fun e => ?_, ⟨fun e => absurd e h45, fun e => absurd e h⟩, fun e => absurd e h45⟩
      subst e
      have := dec_nought _ _ hd
      exact ⟨by omega, this.2⟩
theorem itoa_len (v : Int) (h0 : -9223372036854775808 ≤ v) (h1 : v ≤ 9223372036854775807) : (itoa v).length ≤ 20 := by
  unfold itoa
  split
  · have := dec_len 19 v.natAbs (by omega) (by simp; omega)
    simp
    omega
  · have := dec_len 19 v.toNat (by omega) (by simp; omega)
    omega
theorem textB_size (v : Int) : (textB v).size = (itoa v).length := by unfold textB; exact size_mk _

theorem okc_of {c : UInt8} (h1 : 33 ≤ c.toNat) (h2 : c.toNat ≤ 126) : okc c = true := by unfold okc; exact decide_eq_true ⟨h1, h2⟩
theorem word_text (v : Int) : wordB (textB v) = true := by
  obtain ⟨c, r, he, hc, hr, _⟩ := itoa_head v
  unfold wordB
  rw [textB_data, he]
  have : (c :: r).all okc = true := by
    rw [List.all_eq_true]
    intro d hd
    rcases List.mem_cons.1 hd with rfl | hd
    · rcases hc with rfl | hc
      · decide
      · exact okc_of (by omega) (by omega)
    · exact okc_of (by have := hr d hd; omega) (by have := hr d hd; omega)
  rw [this]
  rfl

theorem itoa0 : itoa 0 = [48] := by unfold itoa; rw [if_neg (by omega), decD, if_pos (by decide)]; rfl
theorem parse_dash0 : parseB ⟨#[45, 48]⟩ = (0, false) := by
  refine parse_false fun v _ _ he => ?_
  obtain ⟨c, r, h1, h2, h3, h4, h5, h6⟩ := itoa_head v
  have e : itoa v = [45, 48] := he
  unfold itoa at e
  split at e
  · rename_i hv
    injection e with _ e
    have := dec_nought _ _ e
    omega
  · have := dec_digit v.toNat 45 (by rw [e]; simp)
    exact absurd this.1 (by decide)
theorem parse_007 : parseB ⟨#[48, 48, 55]⟩ = (0, false) := by
  refine parse_false fun v _ _ he => ?_
  obtain ⟨c, r, h1, h2, h3, h4, h5, h6⟩ := itoa_head v
  have e : itoa v = [48, 48, 55] := he
  rw [h1] at e
  injection e with e1 e2
  have := h4 e1
  rw [this.2] at e2
  cases e2
theorem itoa_m7 : itoa (-7) = [45, 55] := by unfold itoa; rw [if_pos (by omega)]; show 45 :: decDigits 7 = _; rw [decD, if_pos (by decide)]; rfl
theorem parse_m7 : parseB ⟨#[45, 55]⟩ = (-7, true) := by
  have : (⟨#[45, 55]⟩ : ByteArray) = textB (-7) := by unfold textB; rw [itoa_m7]
  rw [this]
  exact parse_text (-7) (by omega) (by omega)
theorem low_aB1 : lowB ⟨#[97, 66, 49]⟩ = ⟨#[97, 98, 49]⟩ := by decide
end Go.Proofs.YtencimfeipglaaaDoor.X
