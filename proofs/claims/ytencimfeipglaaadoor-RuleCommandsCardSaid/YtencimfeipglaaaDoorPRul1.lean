/- A word's rule in plain words; the document's is this one. -/
import Derived.Test.YtencimfeipglaaaDoorPRul0
import Derived.Test.YtencimfeipglaaaDoorXx20
set_option linter.unusedVariables false
set_option linter.unusedSimpArgs false
namespace Go.Proofs.YtencimfeipglaaaDoor.X
open Go.RowKit Go.Lib Go.Proofs.YtencimfeipglaaaDoorW.PrintWords Go.Proofs.YtencimfeipglaaaDoorW.PrintMore

abbrev RT := Int × ByteArray × Bool × Bool × Int × Bool
def zeroR : RT := (0, ⟨#[]⟩, false, false, 0, false)
def words11 : List (List UInt8 × RT) := [
  ([111, 110], (1, ⟨#[]⟩, false, false, 0, true)), ([111, 102, 102], (2, ⟨#[]⟩, false, false, 0, true)), ([110, 111, 112, 97, 115, 115], (3, ⟨#[]⟩, false, false, 0, true)),
  ([114, 101, 115, 101, 116, 112, 97, 115, 115], (4, ⟨#[]⟩, false, false, 0, true)), ([114, 101, 115, 101, 116, 107, 101, 121, 115], (11, ⟨#[]⟩, false, false, 0, true)),
  ([114, 101, 115, 101, 116, 99, 104, 97, 110, 110, 101, 108, 115], (13, ⟨#[]⟩, false, false, 0, true)), ([114, 101, 115, 101, 116], (14, ⟨#[]⟩, false, false, 0, true)),
  ([97, 108, 108, 99, 111, 109, 109, 97, 110, 100, 115], (8, ⟨#[]⟩, false, false, 72057594037927935, true)), ([110, 111, 99, 111, 109, 109, 97, 110, 100, 115], (9, ⟨#[]⟩, false, false, 72057594037927935, true)),
  ([97, 108, 108, 107, 101, 121, 115], (10, ⟨#[42]⟩, true, true, 0, true)), ([97, 108, 108, 99, 104, 97, 110, 110, 101, 108, 115], (12, ⟨#[42]⟩, false, false, 0, true))]
def pctL (r : List UInt8) : RT :=
  (10, mkB (Lib.cut r [126]).2.1, (Lib.cut r [126]).1 != [87], (Lib.cut r [126]).1 != [82], 0,
    (Lib.cut r [126]).2.2 && wordB (mkB (Lib.cut r [126]).2.1) && ((Lib.cut r [126]).1 == [82] || (Lib.cut r [126]).1 == [87] || (Lib.cut r [126]).1 == [82, 87]))
def readL : List UInt8 → RT
  | [] => zeroR
  | c :: r =>
    if c = 62 then (5, mkB r, false, false, 0, true)
    else if c = 35 then (6, mkB r, false, false, 0, rightB (mkB r))
    else if c = 33 then (7, mkB r, false, false, 0, rightB (mkB r))
    else if c = 43 then (8, ⟨#[]⟩, false, false, (maskB (mkB r)).1, (maskB (mkB r)).2)
    else if c = 45 then (9, ⟨#[]⟩, false, false, (maskB (mkB r)).1, (maskB (mkB r)).2)
    else if c = 126 then (10, mkB r, true, true, 0, wordB (mkB r))
    else if c = 38 then (12, mkB r, false, false, 0, wordB (mkB r))
    else if c = 37 then pctL r
    else zeroR
def finR (x : RT) : RT := if x.2.2.2.2.2 = true then x else zeroR
def ruleB (s : ByteArray) : RT := match words11.lookup s.data.toList with
  | some r => r
  | none => finR (readL s.data.toList)

/-! Cuts. -/
theorem idx_hit (c : UInt8) : ∀ (p t : List UInt8), (∀ x ∈ p, x ≠ c) → Lib.indexByte (p ++ c :: t) c = (p.length : Int)
  | [], t, _ => by simp [Lib.indexByte]
  | x :: p, t, h => by
    have ih := idx_hit c p t (fun y hy => h y (List.mem_cons_of_mem _ hy))
    rw [List.cons_append, Lib.indexByte, if_neg (by simpa using h x List.mem_cons_self), ih, if_neg (by rw [beq_iff_eq]; omega)]
    simp
theorem cut_hit (c : UInt8) (p t : List UInt8) (h : ∀ x ∈ p, x ≠ c) : Lib.cut (p ++ c :: t) [c] = (p, t, true) := by
  unfold Lib.cut
  rw [Lib.index_one, idx_hit c p t h, if_pos (by omega)]
  simp
theorem cut_inv (c : UInt8) (l : List UInt8) (h : (Lib.cut l [c]).2.2 = true) : l = (Lib.cut l [c]).1 ++ c :: (Lib.cut l [c]).2.1 := by
  unfold Lib.cut at h ⊢
  rw [Lib.index_one] at h ⊢
  by_cases h0 : 0 ≤ Lib.indexByte l c
  · rw [if_pos h0]
    obtain ⟨o, ho⟩ := Int.eq_ofNat_of_zero_le h0
    obtain ⟨h1, _⟩ := Lib.indexByte_some ho
    rw [ho, Int.toNat_natCast]
    have h3 : l[o]'(List.getElem?_eq_some_iff.1 h1).1 = c := (List.getElem?_eq_some_iff.1 h1).2
    simp only [List.length_singleton]
    rw [← h3, List.getElem_cons_drop]
    exact (List.take_append_drop o l).symm
  · rw [if_neg h0] at h
    cases h
theorem pct_R (t : List UInt8) : finR (pctL (82 :: 126 :: t)) = finR (10, mkB t, true, false, 0, wordB (mkB t)) := by
  have h := cut_hit 126 [82] t (by decide)
  unfold pctL
  rw [show (82 : UInt8) :: 126 :: t = [82] ++ 126 :: t from rfl, h]
  simp
  rfl
theorem pct_W (t : List UInt8) : finR (pctL (87 :: 126 :: t)) = finR (10, mkB t, false, true, 0, wordB (mkB t)) := by
  have h := cut_hit 126 [87] t (by decide)
  unfold pctL
  rw [show (87 : UInt8) :: 126 :: t = [87] ++ 126 :: t from rfl, h]
  simp
  rfl
theorem pct_RW (t : List UInt8) : finR (pctL (82 :: 87 :: 126 :: t)) = finR (10, mkB t, true, true, 0, wordB (mkB t)) := by
  have h := cut_hit 126 [82, 87] t (by decide)
  unfold pctL
  rw [show (82 : UInt8) :: 87 :: 126 :: t = [82, 87] ++ 126 :: t from rfl, h]
  simp
  rfl
theorem pct_no (l : List UInt8) (h1 : pre [82, 126] l = false) (h2 : pre [87, 126] l = false) (h3 : pre [82, 87, 126] l = false) : finR (pctL l) = zeroR := by
  unfold finR
  rw [if_neg]
  intro h
  unfold pctL at h
  simp only [Bool.and_eq_true, Bool.or_eq_true, beq_iff_eq] at h
  obtain ⟨⟨ha, hb⟩, hc⟩ := h
  have hi := cut_inv 126 l ha
  rcases hc with (hc | hc) | hc
  · rw [hc] at hi
    rw [hi] at h1
    simp [pre] at h1
  · rw [hc] at hi
    rw [hi] at h2
    simp [pre] at h2
  · rw [hc] at hi
    rw [hi] at h3
    simp [pre] at h3

/-! The program's read. -/
theorem ext1 (s : ByteArray) : s.extract 1 s.size = mkB (s.data.toList.drop 1) := ext_drop s 1
theorem dropB_size (s : ByteArray) (n : Nat) : (mkB (s.data.toList.drop n)).size ≤ s.size := by
  rw [mkB_size, List.length_drop, size_data]
  omega
theorem byteL {c : UInt8} {n : Nat} (h : n < 256) : ((c.toNat : Int) = ((n : Nat) : Int)) = (c = UInt8.ofNat n) := propext (byteI n h)
theorem pct_end (r : List UInt8) : (if (Lib.cut r [126]).2.2 = true then (num_Word.f (mkB (Lib.cut r [126]).2.1)).bind fun t => (if t = true then (if (mkB (Lib.cut r [126]).1).toList = ([82] : List UInt8) then (some (10, mkB (Lib.cut r [126]).2.1, ((mkB (Lib.cut r [126]).1).toList != ([87] : List UInt8)), ((mkB (Lib.cut r [126]).1).toList != ([82] : List UInt8)), 0, true)) else (if (mkB (Lib.cut r [126]).1).toList = ([87] : List UInt8) then (some (10, mkB (Lib.cut r [126]).2.1, ((mkB (Lib.cut r [126]).1).toList != ([87] : List UInt8)), ((mkB (Lib.cut r [126]).1).toList != ([82] : List UInt8)), 0, true)) else (some (10, mkB (Lib.cut r [126]).2.1, ((mkB (Lib.cut r [126]).1).toList != ([87] : List UInt8)), ((mkB (Lib.cut r [126]).1).toList != ([82] : List UInt8)), 0, ((mkB (Lib.cut r [126]).1).toList == ([82, 87] : List UInt8)))))) else (some (10, mkB (Lib.cut r [126]).2.1, ((mkB (Lib.cut r [126]).1).toList != ([87] : List UInt8)), ((mkB (Lib.cut r [126]).1).toList != ([82] : List UInt8)), 0, false))) else (some (10, mkB (Lib.cut r [126]).2.1, ((mkB (Lib.cut r [126]).1).toList != ([87] : List UInt8)), ((mkB (Lib.cut r [126]).1).toList != ([82] : List UInt8)), 0, false))) =
    if (mkB (Lib.cut r [126]).2.1).size ≤ 140737488355328 ∨ (Lib.cut r [126]).2.2 = false then some (pctL r) else none := by
  unfold pctL
  rw [toList_data, data_mkB]
  generalize Lib.cut r [126] = x
  obtain ⟨a, b, c⟩ := x
  simp only
  cases c with
  | false => simp
  | true =>
    rw [if_pos rfl]
    by_cases hs : (mkB b).size ≤ 140737488355328
    · rw [word_f _ hs, Option.bind_some, if_pos (show (mkB b).size ≤ 140737488355328 ∨ true = false from .inl hs)]
      cases wordB (mkB b) with
      | false => simp
      | true =>
        rw [if_pos (show true = true from rfl)]
        by_cases h1 : a = [82]
        · rw [if_pos h1]; subst h1; simp
        · rw [if_neg h1]
          by_cases h2 : a = [87]
          · rw [if_pos h2]; subst h2; simp
          · rw [if_neg h2]
            simp [h1, h2]
    · rw [if_neg (show ¬ ((mkB b).size ≤ 140737488355328 ∨ true = false) by simp; omega)]
      unfold num_Word.f
      rw [if_neg hs]
      rfl
end Go.Proofs.YtencimfeipglaaaDoor.X
