/- Plain: frame.Next over bytes; what comes behind; what was put. -/
import Derived.Test.YtmbfapgamcbajaaDoorPFrm2
set_option linter.unusedVariables false
set_option linter.unusedSimpArgs false
namespace Go.Proofs.YtmbfapgamcbajaaDoor.X
open Go.RowKit

def nextU (s : List UInt8) : Rq :=
  if s.head? = some 42 then rowTop s
  else if Lib.indexByte (s.take 600) 10 < 0 then (if s.length < 600 then ([], 0, 0) else ([], 0, 10))
  else if 32 < (wordsU [] (Lib.trimSuffix (s.take (Lib.indexByte (s.take 600) 10).toNat) [13])).length then ([], 0, 10)
  else (wordsU [] (Lib.trimSuffix (s.take (Lib.indexByte (s.take 600) 10).toNat) [13]), Lib.indexByte (s.take 600) 10 + 1, 0)

theorem pieces_U (s : List Int) : (piecesOf (lineOf s)).filter someB = wordsU [] (Lib.trimSuffix (U s) [13]) := by
  rw [← splitK_words _ _ rfl]
  have hd : (lineOf s).data.toList = Lib.trimSuffix (U s) [13] := by unfold lineOf; rw [data_mk, nums_U]
  have h1 := Lib.splitB_data ⟨#[32]⟩ 0 (Lib.countB (lineOf s) ⟨#[32]⟩) (lineOf s)
  rw [hd] at h1
  have hc : Lib.countB (lineOf s) ⟨#[32]⟩ = Lib.count (Lib.trimSuffix (U s) [13]) [32] := by
    show Lib.count (lineOf s).data.toList [32] = _
    rw [hd]
  rw [hc] at h1
  rw [← h1]
  unfold piecesOf
  rw [hc, List.filter_map, List.map_map]
  have e1 : ((fun p : List UInt8 => (⟨p.toArray⟩ : ByteArray)) ∘ fun x : ByteArray => x.data.toList) = id := by
    funext x
    exact mk_data x
  have e2 : ((fun p : List UInt8 => p != []) ∘ fun x : ByteArray => x.data.toList) = someB := by
    funext x
    show (x.data.toList != []) = (x.toList != [])
    rw [toList_data]
  rw [e1, e2, List.map_id]

theorem starts_U (b : List Int) : starts b = true ↔ (U b).head? = some 42 := by
  unfold starts
  rw [Lib.strOfNums_toList]
  cases b with
  | nil => simp [U, Go.Lib.bytesOf]
  | cons x r => simp [U, Go.Lib.bytesOf]
theorem nextB_U (b : List Int) : nextB b = nextU (U b) := by
  unfold nextB nextU
  have he : endOf (b.take 600) = Lib.indexByte ((U b).take 600) 10 := by unfold endOf; rw [← U_take]
  rw [rowB_U, he, U_len, pieces_U, U_take]
  by_cases h : starts b = true
  · rw [if_pos h, if_pos ((starts_U b).1 h)]
  · rw [if_neg h, if_neg (fun h' => h ((starts_U b).2 h'))]

/-! What comes behind. -/
theorem idx_app : ∀ (l m : List UInt8) (c : UInt8), 0 ≤ Lib.indexByte l c → Lib.indexByte (l ++ m) c = Lib.indexByte l c
  | [], m, c, h => by simp [Lib.indexByte] at h
  | b :: l, m, c, h => by
    rw [List.cons_append]
    unfold Lib.indexByte at h ⊢
    by_cases hb : (b == c) = true
    · rw [if_pos hb, if_pos hb]
    · rw [if_neg hb] at h ⊢
      rw [if_neg hb]
      by_cases h1 : (Lib.indexByte l c == -1) = true
      · rw [if_pos h1] at h; omega
      · rw [if_neg h1] at h ⊢
        have h2 := Lib.indexByte_ge l c
        have h3 : Lib.indexByte l c ≠ -1 := fun e => h1 (beq_iff_eq.2 e)
        rw [idx_app l m c (by omega), if_neg h1]
theorem idx_put : ∀ (p r : List UInt8) (c : UInt8), (∀ d ∈ p, d ≠ c) → Lib.indexByte (p ++ c :: r) c = p.length
  | [], r, c, _ => by simp [Lib.indexByte]
  | b :: p, r, c, h => by
    have ih := idx_put p r c (fun d hd => h d (List.mem_cons_of_mem _ hd))
    rw [List.cons_append]
    unfold Lib.indexByte
    rw [ih, if_neg (by rw [beq_iff_eq]; exact h b List.mem_cons_self), if_neg (by rw [beq_iff_eq]; omega)]
    simp

theorem line_app (s t : List UInt8) (h : 0 ≤ lineU s) : lineU (s ++ t) = lineU s := by
  unfold lineU at h ⊢
  rw [List.take_append, idx_app _ _ _ h]
theorem head_grows (mark : UInt8) (low high : Int) (s t : List UInt8) : headU mark low high s = .short ∨ headU mark low high (s ++ t) = headU mark low high s := by
  by_cases h : lineU s < 0
  · by_cases h16 : s.length < 16
    · left; unfold headU; rw [if_pos h, if_pos h16]
    · right
      have e : lineU (s ++ t) = lineU s := by unfold lineU; rw [List.take_append_of_le_length (by omega)]
      unfold headU
      rw [e, if_pos h, if_pos h, if_neg h16, if_neg (by rw [List.length_append]; omega)]
  · right
    have e := line_app s t (by omega)
    obtain ⟨_, hl, _⟩ := take_at s (by omega)
    unfold headU
    rw [e, if_neg h, if_neg h, List.take_append_of_le_length (by omega)]

/-- What a row may come to. -/
theorem row_fits : ∀ (left : Nat) (s : List UInt8) (a : Nat) (l : List ByteArray), rowU left s a l = ([], 0, 0) ∨ rowU left s a l = ([], 0, 10) ∨ ∃ l' n : _, rowU left s a l = (l ++ l', ((n : Nat) : Int), 0) ∧ a ≤ n ∧ n ≤ a + s.length ∧ l'.length = left := by
  intro left
  induction left with
  | zero => intro s a l; exact .inr (.inr ⟨[], a, by simp [rowU], by omega, by omega, rfl⟩)
  | succ left ih =>
    intro s a l
    unfold rowU
    cases hh : headU 36 0 512 s with
    | short => exact .inl rfl
    | bad => exact .inr (.inl rfl)
    | ok k n =>
      simp only
      obtain ⟨h1, h2, h3⟩ := head_n hh
      by_cases hs : s.length < n + k + 2
      · rw [if_pos hs]; exact .inl rfl
      · rw [if_neg hs]
        by_cases hw : ((s.drop n).drop k).take 2 = [13, 10]
        · rw [if_pos hw]
          rcases ih ((s.drop n).drop (k + 2)) (a + n + k + 2) (l ++ [⟨((s.drop n).take k).toArray⟩]) with h | h | ⟨l', m, h, h4, h5, h6⟩
          · exact .inl h
          · exact .inr (.inl h)
          · rw [List.length_drop, List.length_drop] at h5
            exact .inr (.inr ⟨_, m, by rw [h, List.append_assoc], by omega, by omega, by simp [h6]⟩)
        · rw [if_neg hw]; exact .inr (.inl rfl)
theorem row_grows : ∀ (left : Nat) (s t : List UInt8) (a : Nat) (l : List ByteArray), rowU left s a l = ([], 0, 0) ∨ rowU left (s ++ t) a l = rowU left s a l := by
  intro left
  induction left with
  | zero => intro s t a l; exact .inr rfl
  | succ left ih =>
    intro s t a l
    unfold rowU
    rcases head_grows 36 0 512 s t with h | h
    · rw [h]; exact .inl rfl
    · rw [h]
      cases hh : headU 36 0 512 s with
      | short => exact .inl rfl
      | bad => exact .inr rfl
      | ok k n =>
        simp only
        obtain ⟨h1, h2, h3⟩ := head_n hh
        by_cases hs : s.length < n + k + 2
        · rw [if_pos hs]; exact .inl rfl
        · rw [if_neg hs, if_neg (show ¬ (s ++ t).length < n + k + 2 by rw [List.length_append]; omega)]
          have e1 : (s ++ t).drop n = s.drop n ++ t := by rw [List.drop_append_of_le_length (by omega)]
          have hl : (s.drop n).length = s.length - n := List.length_drop
          have e2 : (s.drop n ++ t).drop k = (s.drop n).drop k ++ t := by rw [List.drop_append_of_le_length (by omega)]
          have hl2 : ((s.drop n).drop k).length = s.length - n - k := by rw [List.length_drop, hl]
          have e3 : ((s.drop n).drop k ++ t).take 2 = ((s.drop n).drop k).take 2 := by rw [List.take_append_of_le_length (by omega)]
          have e4 : (s.drop n ++ t).drop (k + 2) = (s.drop n).drop (k + 2) ++ t := by rw [List.drop_append_of_le_length (by omega)]
          have e5 : (s.drop n ++ t).take k = (s.drop n).take k := by rw [List.take_append_of_le_length (by omega)]
          rw [e1, e2, e3, e4, e5]
          by_cases hw : ((s.drop n).drop k).take 2 = [13, 10]
          · rw [if_pos hw, if_pos hw]; exact ih _ _ _ _
          · rw [if_neg hw, if_neg hw]; exact .inr rfl
theorem top_grows (s t : List UInt8) : rowTop s = ([], 0, 0) ∨ rowTop (s ++ t) = rowTop s := by
  unfold rowTop
  rcases head_grows 42 1 32 s t with h | h
  · rw [h]; exact .inl rfl
  · rw [h]
    cases hh : headU 42 1 32 s with
    | short => exact .inl rfl
    | bad => exact .inr rfl
    | ok k n =>
      simp only
      obtain ⟨h1, _, _⟩ := head_n hh
      have e1 : (s ++ t).drop n = s.drop n ++ t := by rw [List.drop_append_of_le_length (by omega)]
      rw [e1]
      exact row_grows _ _ _ _ _

/-- What is a request stays one; what is none stays none. -/
theorem next_grows (s t : List UInt8) : nextU s = ([], 0, 0) ∨ nextU (s ++ t) = nextU s := by
  cases s with
  | nil => left; rfl
  | cons c r =>
    unfold nextU
    have e0 : (c :: r ++ t).head? = (c :: r).head? := rfl
    rw [e0]
    by_cases hc : (c :: r).head? = some 42
    · rw [if_pos hc, if_pos hc]; exact top_grows _ _
    · rw [if_neg hc, if_neg hc]
      generalize c :: r = s
      by_cases h : Lib.indexByte (s.take 600) 10 < 0
      · by_cases h6 : s.length < 600
        · left; rw [if_pos h, if_pos h6]
        · right
          rw [List.take_append_of_le_length (by omega), if_pos h, if_pos h, if_neg h6, if_neg (by rw [List.length_append]; omega)]
      · right
        obtain ⟨o, ho⟩ := Int.eq_ofNat_of_zero_le (show 0 ≤ Lib.indexByte (s.take 600) 10 by omega)
        have h1 := (List.getElem?_eq_some_iff.1 (Lib.indexByte_some ho).1).1
        rw [List.length_take] at h1
        have e : Lib.indexByte ((s ++ t).take 600) 10 = Lib.indexByte (s.take 600) 10 := by rw [List.take_append, idx_app _ _ _ (by omega)]
        rw [e, ho]
        simp only [Int.toNat_natCast]
        rw [List.take_append_of_le_length (by omega)]
        simp only [if_neg (show ¬ ((o : Int) < 0) by omega)]

theorem head_k {mark : UInt8} {low high : Int} {s : List UInt8} {k n : Nat} (h : headU mark low high s = .ok k n) (h0 : 0 ≤ low) : low ≤ k ∧ (k : Int) ≤ high := by
  unfold headU at h
  split at h
  · split at h <;> cases h
  · unfold lineHd at h
    split at h
    · cases h
    · split at h
      · rename_i hh
        injection h with h1 h2
        omega
      · cases h

theorem next_fits (s : List UInt8) : nextU s = ([], 0, 0) ∨ nextU s = ([], 0, 10) ∨ ∃ l n : _, nextU s = (l, ((n : Nat) : Int), 0) ∧ 0 < n ∧ n ≤ s.length ∧ l.length ≤ 32 := by
  unfold nextU
  split
  · unfold rowTop
    cases hh : headU 42 1 32 s with
    | short => exact .inl rfl
    | bad => exact .inr (.inl rfl)
    | ok k n =>
      simp only
      obtain ⟨h1, h2, h3⟩ := head_n hh
      have h32 := (head_k hh (by decide)).2
      rcases row_fits k (s.drop n) n [] with h | h | ⟨l', m, h, h4, h5, h6⟩
      · exact .inl h
      · exact .inr (.inl h)
      · rw [List.length_drop] at h5
        exact .inr (.inr ⟨_, m, h, by omega, by omega, by simp; omega⟩)
  · split
    · split
      · exact .inl rfl
      · exact .inr (.inl rfl)
    · split
      · exact .inr (.inl rfl)
      · rename_i h h32
        obtain ⟨o, ho⟩ := Int.eq_ofNat_of_zero_le (show 0 ≤ Lib.indexByte (s.take 600) 10 by omega)
        have h1 := (List.getElem?_eq_some_iff.1 (Lib.indexByte_some ho).1).1
        rw [List.length_take] at h1
        exact .inr (.inr ⟨_, o + 1, by rw [ho]; rfl, by omega, by omega, by rw [ho] at h32; omega⟩)
end Go.Proofs.YtmbfapgamcbajaaDoor.X
