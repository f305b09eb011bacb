/- Plain: what frame.Next gives, over bytes. -/
import Derived.Test.YtmbfapgamcbajaaDoorEFNext
import Derived.Test.YtmbfapgamcbajaaDoorPTxt
set_option linter.unusedVariables false
set_option linter.unusedSimpArgs false
namespace Go.Proofs.YtmbfapgamcbajaaDoor.X
open Go.RowKit

abbrev U (b : List Int) : List UInt8 := Go.Lib.bytesOf b
theorem U_len (b : List Int) : (U b).length = b.length := by simp [U, Go.Lib.bytesOf]
theorem U_take (b : List Int) (n : Nat) : U (b.take n) = (U b).take n := by simp [U, Go.Lib.bytesOf]
theorem U_drop (b : List Int) (n : Nat) : U (b.drop n) = (U b).drop n := by simp [U, Go.Lib.bytesOf]
theorem U_app (a b : List Int) : U (a ++ b) = U a ++ U b := by simp [U, Go.Lib.bytesOf]
theorem nums_U (b : List Int) : (strOfNums b).data.toList = U b := by rw [← toList_data, Lib.strOfNums_toList]
theorem nums_mk (b : List Int) : strOfNums b = ⟨(U b).toArray⟩ := by rw [← nums_U, mk_data]

inductive Hd
  | short
  | bad
  | ok (k n : Nat)

/-- Where the line that bytes begin with ends. -/
def lineU (s : List UInt8) : Int := Go.Lib.indexByte (s.take 16) 10
def lineHd (mark : UInt8) (low high : Int) (l : List UInt8) : Hd :=
  match l with
  | [] => .bad
  | m :: r => if m = mark ∧ r.getLast? = some 13 ∧ (parseB ⟨r.dropLast.toArray⟩).2 = true ∧ low ≤ (parseB ⟨r.dropLast.toArray⟩).1 ∧ (parseB ⟨r.dropLast.toArray⟩).1 ≤ high then .ok (parseB ⟨r.dropLast.toArray⟩).1.toNat (l.length + 1) else .bad
def headU (mark : UInt8) (low high : Int) (s : List UInt8) : Hd :=
  if lineU s < 0 then (if s.length < 16 then .short else .bad) else lineHd mark low high (s.take (lineU s).toNat)

theorem lineN_U (s : List Int) : lineN s = lineU (U s) := by unfold lineN endOf lineU; rw [← U_take]
theorem take_at (s : List UInt8) (h : 0 ≤ lineU s) : s.take ((lineU s).toNat + 1) = s.take (lineU s).toNat ++ [10] ∧ (lineU s).toNat < s.length ∧ (lineU s).toNat < 16 := by
  obtain ⟨o, ho⟩ := Int.eq_ofNat_of_zero_le h
  have h1 := (Lib.indexByte_some (show Lib.indexByte (s.take 16) 10 = o from ho)).1
  rw [ho]
  simp only [Int.toNat_natCast]
  rw [List.getElem?_take] at h1
  by_cases h16 : o < 16
  · rw [if_pos h16] at h1
    have hl := (List.getElem?_eq_some_iff.1 h1).1
    refine ⟨?_, hl, h16⟩
    rw [List.take_succ_eq_append_getElem hl]
    rw [List.getElem?_eq_getElem hl] at h1
    rw [Option.some.inj h1]
  · rw [if_neg h16] at h1
    cases h1

theorem suf (l : List UInt8) : Lib.hasSuffix (l ++ [10]) [13, 10] = (l.getLast? == some 13) := by
  rcases List.eq_nil_or_concat l with rfl | ⟨l', x, rfl⟩
  · rfl
  · simp [Lib.hasSuffix, List.isSuffixOf, List.isPrefixOf]
    rw [Bool.eq_iff_iff, beq_iff_eq, beq_iff_eq]
    exact ⟨fun h => h.symm, fun h => h.symm⟩

theorem num_head (s : List Int) (mark : UInt8) (low high : Int) :
    headU mark low high (U s) = if lineN s < 0 then (if s.length < 16 then .short else .bad) else if numBad s ⟨#[mark]⟩ low high = true then .bad else .ok (numK s ⟨#[mark]⟩).toNat ((lineN s).toNat + 1) := by
  unfold headU
  rw [lineN_U, U_len]
  by_cases h : lineU (U s) < 0
  · rw [if_pos h, if_pos h]
  · rw [if_neg h, if_neg h]
    obtain ⟨ht, hl, h16⟩ := take_at (U s) (by omega)
    obtain ⟨n, hn⟩ : ∃ n : Nat, lineU (U s) = n := ⟨_, (Int.toNat_of_nonneg (by omega)).symm⟩
    have hnl : lineN s = n := by rw [lineN_U, hn]
    rw [hn] at ht hl ⊢
    simp only [Int.toNat_natCast] at ht hl ⊢
    obtain ⟨l, hle⟩ : ∃ l, (U s).take n = l := ⟨_, rfl⟩
    have hll : l.length = n := by rw [← hle, List.length_take]; omega
    rw [hle] at ht ⊢
    have hT : (lineT s (lineN s)).data.toList = l ++ [10] := by
      unfold lineT
      rw [nums_U, U_take, hnl]
      have : ((n : Int) + 1).toNat = n + 1 := by omega
      rw [this, ht]
    have hA : numA s (lineN s) = (l.getLast? == some 13) := by unfold numA; rw [hT, suf]
    cases l with
    | nil =>
      have : numBad s ⟨#[mark]⟩ low high = true := by unfold numBad; rw [hA]; rfl
      rw [if_pos this]
      rfl
    | cons m r =>
      unfold lineHd
      simp only
      by_cases hr : r.getLast? = some 13
      · have hgl : (m :: r).getLast? = some 13 := by
          rw [List.getLast?_cons, hr]
          rfl
        rw [hgl] at hA
        have hL : (numL s (lineN s)).data.toList = (m :: r).dropLast := by
          unfold numL
          rw [data_mk]
          unfold Lib.trimSuffix
          rw [hT, suf, hgl]
          simp only [beq_self_eq_true, if_true]
          have e : (m :: r ++ [10]).length - [(13 : UInt8), 10].length = (m :: r).length - 1 := by simp
          rw [e, List.take_append_of_le_length (by omega), ← List.dropLast_eq_take]
        have hne : r ≠ [] := by rintro rfl; cases hr
        have hdl : (m :: r).dropLast = m :: r.dropLast := by
          cases r with
          | nil => exact absurd rfl hne
          | cons => rfl
        rw [hdl] at hL
        have hC : numC s (lineN s) ⟨#[mark]⟩ = (mark == m) := by
          unfold numC
          rw [hL]
          simp [Lib.hasPrefix, List.isPrefixOf]
        by_cases hm : m = mark
        · subst hm
          have hD : numD s (lineN s) ⟨#[m]⟩ = ⟨r.dropLast.toArray⟩ := by
            unfold numD Lib.trimPrefix
            rw [hL]
            simp [Lib.hasPrefix, List.isPrefixOf]
          have hK : numK s ⟨#[m]⟩ = (parseB ⟨r.dropLast.toArray⟩).1 := by unfold numK; rw [hD]
          have hB : numBad s ⟨#[m]⟩ low high = !((parseB ⟨r.dropLast.toArray⟩).2 && decide (low ≤ (parseB ⟨r.dropLast.toArray⟩).1) && decide ((parseB ⟨r.dropLast.toArray⟩).1 ≤ high)) := by
            unfold numBad
            rw [hA, hC, hD, hK]
            simp
          rw [hB, hK]
          by_cases hp : (parseB ⟨r.dropLast.toArray⟩).2 = true ∧ low ≤ (parseB ⟨r.dropLast.toArray⟩).1 ∧ (parseB ⟨r.dropLast.toArray⟩).1 ≤ high
          · rw [if_pos ⟨rfl, hr, hp⟩, if_neg (by simp [hp.1, hp.2.1, hp.2.2]), hll]
          · rw [if_neg (fun h => hp h.2.2), if_pos]
            rw [Bool.not_eq_true', Bool.eq_false_iff]
            intro h5
            simp only [Bool.and_eq_true, decide_eq_true_eq] at h5
            exact hp ⟨h5.1.1, h5.1.2, h5.2⟩
        · rw [if_neg (fun h => hm h.1), if_pos]
          unfold numBad
          rw [hC]
          have : (mark == m) = false := beq_eq_false_iff_ne.2 (fun h => hm h.symm)
          rw [this]
          simp
      · rw [if_neg (fun h => hr h.2.1), if_pos]
        unfold numBad
        cases r with
        | nil =>
          have hC : numA s (lineN s) = false ∨ numC s (lineN s) ⟨#[mark]⟩ = false := by
            cases hq : numA s (lineN s) with
            | false => exact .inl rfl
            | true =>
              refine .inr ?_
              have hL : (numL s (lineN s)).data.toList = [] := by
                unfold numL
                rw [data_mk]
                unfold Lib.trimSuffix
                have : Lib.hasSuffix (lineT s (lineN s)).data.toList [13, 10] = true := hq
                rw [this, hT]
                rfl
              unfold numC
              rw [hL]
              rfl
          rcases hC with h1 | h1 <;> rw [h1] <;> simp
        | cons x r =>
          have : numA s (lineN s) = false := by
            rw [hA, List.getLast?_cons_cons]
            exact beq_eq_false_iff_ne.2 hr
          rw [this]
          rfl
end Go.Proofs.YtmbfapgamcbajaaDoor.X
