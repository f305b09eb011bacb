/- Plain: requests over bytes; what comes behind changes nothing. -/
import Derived.Test.YtmbfapgamcbajaaDoorPFrm1
set_option linter.unusedVariables false
set_option linter.unusedSimpArgs false
namespace Go.Proofs.YtmbfapgamcbajaaDoor.X
open Go.RowKit

abbrev Rq := List ByteArray × Int × Int

/-- The words of a row, so many, out of the bytes left; at_ are taken. -/
def rowU : Nat → List UInt8 → Nat → List ByteArray → Rq
  | 0, _, at_, l => (l, at_, 0)
  | left + 1, s, at_, l =>
    match headU 36 0 512 s with
    | .short => ([], 0, 0)
    | .bad => ([], 0, 10)
    | .ok k n =>
      if s.length < n + k + 2 then ([], 0, 0)
      else if ((s.drop n).drop k).take 2 = [13, 10] then rowU left ((s.drop n).drop (k + 2)) (at_ + n + k + 2) (l ++ [⟨((s.drop n).take k).toArray⟩])
      else ([], 0, 10)

def rowTop (s : List UInt8) : Rq :=
  match headU 42 1 32 s with
  | .short => ([], 0, 0)
  | .bad => ([], 0, 10)
  | .ok k n => rowU k (s.drop n) n []

theorem head_n {mark : UInt8} {low high : Int} {s : List UInt8} {k n : Nat} (h : headU mark low high s = .ok k n) : n ≤ s.length ∧ 3 ≤ n ∧ n ≤ 16 := by
  unfold headU at h
  split at h
  · split at h <;> cases h
  · rename_i h0
    obtain ⟨_, hl, h16⟩ := take_at s (by omega)
    unfold lineHd at h
    split at h
    · cases h
    · rename_i m r heq
      split at h
      · rename_i hh
        injection h with h1 h2
        have h3 : (s.take (lineU s).toNat).length = (lineU s).toNat := by rw [List.length_take]; omega
        rw [heq] at h3
        have : r ≠ [] := by rintro rfl; cases hh.2.1
        have : 0 < r.length := List.length_pos_iff.2 this
        simp at h3 h2
        omega
      · cases h

theorem wordBad_U (s : List Int) (n : Nat) : wordBad s n = !(decide (((U s).drop n).take 2 = [13, 10])) := by
  unfold wordBad
  rw [Lib.strOfNums_toList]
  have : Lib.bytesOf ((s.take (n + 2)).drop n) = ((U s).drop n).take 2 := by
    have e : (s.take (n + 2)).drop n = (s.drop n).take 2 := by rw [List.drop_take]; congr 1; omega
    rw [e]
    show U ((s.drop n).take 2) = _
    rw [U_take, U_drop]
  rw [this]
  by_cases h : ((U s).drop n).take 2 = [13, 10]
  · rw [decide_eq_true h, h]; rfl
  · rw [decide_eq_false h]; exact bne_iff_ne.2 h

theorem rowL_U (b : List Int) : ∀ (left at_ : Nat) (l : List ByteArray), at_ ≤ b.length → rowL b left at_ l = rowU left ((U b).drop at_) at_ l := by
  intro left
  induction left with
  | zero => intro at_ l _; rfl
  | succ left ih =>
    intro at_ l hat
    have hh := num_head (b.drop at_) 36 0 512
    rw [U_drop] at hh
    have hlen : (b.drop at_).length = b.length - at_ := List.length_drop
    unfold rowL rowU
    by_cases h0 : lineN (b.drop at_) < 0
    · rw [if_pos h0] at hh ⊢
      rw [hlen] at hh
      by_cases h16 : b.length - at_ < 16
      · rw [if_pos h16] at hh ⊢; rw [hh]
      · rw [if_neg h16] at hh ⊢; rw [hh]
    · rw [if_neg h0] at hh ⊢
      cases hb : numBad (b.drop at_) ⟨#[36]⟩ 0 512 with
      | true => rw [hb, if_pos rfl] at hh; rw [if_pos rfl, hh]
      | false =>
        rw [hb, if_neg (by decide)] at hh
        rw [if_neg (by decide), hh]
        obtain ⟨hn1, _, _⟩ := head_n hh
        simp only
        obtain ⟨k, hk⟩ : ∃ k, (numK (b.drop at_) ⟨#[36]⟩).toNat = k := ⟨_, rfl⟩
        obtain ⟨n, hn⟩ : ∃ n, (lineN (b.drop at_)).toNat = n := ⟨_, rfl⟩
        rw [hk, hn] at hh ⊢
        rw [hn] at hn1
        rw [List.length_drop, U_len] at hn1 ⊢
        by_cases hs : b.length < at_ + n + 1 + k + 2
        · rw [if_pos hs, if_pos (by omega)]
        · rw [if_neg hs, if_neg (show ¬ b.length - at_ < n + 1 + k + 2 by omega), wordBad_U, U_drop]
          simp only [List.drop_drop, ← Nat.add_assoc]
          by_cases hw : ((U b).drop (at_ + n + 1 + k)).take 2 = [13, 10]
          · rw [if_neg (by simp [hw]), if_pos hw, ih _ _ (by omega), nums_mk, U_take, U_drop]
          · rw [if_pos (by simp [hw]), if_neg hw]

theorem rowB_U (b : List Int) : rowB b = rowTop (U b) := by
  have hh := num_head b 42 1 32
  unfold rowB rowTop
  by_cases h0 : lineN b < 0
  · rw [if_pos h0] at hh ⊢
    by_cases h16 : b.length < 16
    · rw [if_pos h16] at hh ⊢; rw [hh]
    · rw [if_neg h16] at hh ⊢; rw [hh]
  · rw [if_neg h0] at hh ⊢
    cases hb : numBad b ⟨#[42]⟩ 1 32 with
    | true => rw [hb, if_pos rfl] at hh; rw [if_pos rfl, hh]
    | false =>
      rw [hb, if_neg (by decide)] at hh
      rw [if_neg (by decide), hh]
      obtain ⟨hn1, _, _⟩ := head_n hh
      rw [U_len] at hn1
      exact rowL_U b _ _ _ hn1

/-! The words of a line. -/
def wordsU : List UInt8 → List UInt8 → List ByteArray
  | acc, [] => if acc = [] then [] else [⟨acc.toArray⟩]
  | acc, c :: r => if c = 32 then (if acc = [] then wordsU [] r else ⟨acc.toArray⟩ :: wordsU [] r) else wordsU (acc ++ [c]) r

theorem words_none : ∀ (p acc : List UInt8), (∀ c ∈ p, c ≠ 32) → wordsU acc p = if acc ++ p = [] then [] else [⟨(acc ++ p).toArray⟩]
  | [], acc, _ => by simp [wordsU]
  | c :: p, acc, h => by
    unfold wordsU
    rw [if_neg (h c List.mem_cons_self), words_none p (acc ++ [c]) (fun d hd => h d (List.mem_cons_of_mem _ hd))]
    simp
theorem words_some : ∀ (p r acc : List UInt8), (∀ c ∈ p, c ≠ 32) → wordsU acc (p ++ 32 :: r) = if acc ++ p = [] then wordsU [] r else ⟨(acc ++ p).toArray⟩ :: wordsU [] r
  | [], r, acc, _ => by simp [wordsU]
  | c :: p, r, acc, h => by
    rw [List.cons_append]
    conv => lhs; rw [wordsU]
    rw [if_neg (h c List.mem_cons_self), words_some p r (acc ++ [c]) (fun d hd => h d (List.mem_cons_of_mem _ hd))]
    simp

theorem splitK_words : ∀ (k : Nat) (s : List UInt8), Lib.count s [32] = k → ((Lib.splitK [32] 0 k s).filter (fun p => p != [])).map (fun p => (⟨p.toArray⟩ : ByteArray)) = wordsU [] s := by
  intro k
  induction k with
  | zero =>
    intro s hc
    rw [Lib.count_one] at hc
    have hn : ∀ c ∈ s, c ≠ 32 := by
      intro c hcs e
      subst e
      have := List.count_pos_iff.2 hcs
      omega
    rw [words_none s [] hn]
    unfold Lib.splitK
    cases s <;> simp
  | succ k ih =>
    intro s hc
    unfold Lib.splitK
    have hc' := hc
    rw [Lib.count_one] at hc'
    rw [Lib.index_one]
    have hmem : (32 : UInt8) ∈ s := List.count_pos_iff.1 (by omega)
    have hne : Lib.indexByte s 32 ≠ -1 := by
      intro e
      obtain ⟨i, hi⟩ := List.getElem?_of_mem hmem
      exact Lib.indexByte_none e i hi
    have hge := Lib.indexByte_ge s 32
    obtain ⟨o, ho⟩ := Int.eq_ofNat_of_zero_le (show 0 ≤ Lib.indexByte s 32 by omega)
    obtain ⟨h1, h2⟩ := Lib.indexByte_some ho
    rw [if_neg (by rw [beq_iff_eq]; exact hne), ho]
    simp only [Int.toNat_natCast, Nat.add_zero, List.length_singleton]
    have hl := (List.getElem?_eq_some_iff.1 h1).1
    have hs : s = s.take o ++ 32 :: s.drop (o + 1) := by
      have h3 : s[o] = 32 := (List.getElem?_eq_some_iff.1 h1).2
      rw [← h3, List.getElem_cons_drop]
      exact (List.take_append_drop o s).symm
    have hp : ∀ c ∈ s.take o, c ≠ 32 := by
      intro c hcm e
      subst e
      obtain ⟨i, hi⟩ := List.getElem?_of_mem hcm
      rw [List.getElem?_take] at hi
      split at hi
      · exact h2 i (by assumption) hi
      · cases hi
    have hcd : Lib.count (s.drop (o + 1)) [32] = k := by
      rw [Lib.count_one]
      have : s.count 32 = (s.take o).count 32 + (1 + (s.drop (o + 1)).count 32) := by
        conv => lhs; rw [hs]
        rw [List.count_append, List.count_cons_self]
        omega
      have h0 : (s.take o).count 32 = 0 := by
        rw [List.count_eq_zero]
        intro hm
        exact hp 32 hm rfl
      omega
    have hw := words_some (s.take o) (s.drop (o + 1)) [] hp
    rw [← hs, List.nil_append] at hw
    rw [hw, List.filter_cons, ← ih _ hcd]
    by_cases he : s.take o = []
    · rw [if_pos he, he]; simp
    · rw [if_neg he]
      simp [he]
end Go.Proofs.YtmbfapgamcbajaaDoor.X
