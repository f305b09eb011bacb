/- Plain: what was put is read. -/
import Derived.Test.YtmbfapgamcbajaaDoorEFNext
import Derived.Test.YtmbfapgamcbajaaDoorPTxt
set_option linter.unusedVariables false
set_option linter.unusedSimpArgs false
namespace Go.Proofs.YtmbfapgamcbajaaDoor.X
open Go.RowKit

abbrev U (b : List Int) : List UInt8 := Go.Lib.bytesOf b
theorem U_len (b : List Int) : (U b).length = b.length := by simp [U, Go.Lib.bytesOf]
theorem U_take (b : List Int) (n : Nat) : U (b.take n) = (U b).take n := by simp [U, Go.Lib.bytesOf]
theorem U_drop (b : List Int) (n : Nat) : U (b.drop n) = (U b).drop n := by simp [U, Go.Lib.bytesOf]
theorem U_app (a b : List Int) : U (a ++ b) = U a ++ U b := by simp [U, Go.Lib.bytesOf]
theorem nums_U (b : List Int) : (strOfNums b).data.toList = U b := by rw [← toList_data, Lib.strOfNums_toList]
theorem nums_mk (b : List Int) : strOfNums b = ⟨(U b).toArray⟩ := by rw [← nums_U, mk_data]

inductive Hd
  | short
  | bad
  | ok (k n : Nat)

/-- Where the line that bytes begin with ends. -/
def lineU (s : List UInt8) : Int := Go.Lib.indexByte (s.take 16) 10
def lineHd (mark : UInt8) (low high : Int) (l : List UInt8) : Hd :=
  match l with
  | [] => .bad
  | m :: r => if m = mark ∧ r.getLast? = some 13 ∧ (parseB ⟨r.dropLast.toArray⟩).2 = true ∧ low ≤ (parseB ⟨r.dropLast.toArray⟩).1 ∧ (parseB ⟨r.dropLast.toArray⟩).1 ≤ high then .ok (parseB ⟨r.dropLast.toArray⟩).1.toNat (l.length + 1) else .bad
def headU (mark : UInt8) (low high : Int) (s : List UInt8) : Hd :=
  if lineU s < 0 then (if s.length < 16 then .short else .bad) else lineHd mark low high (s.take (lineU s).toNat)

theorem lineN_U (s : List Int) : lineN s = lineU (U s) := by unfold lineN endOf lineU; rw [← U_take]
theorem take_at (s : List UInt8) (h : 0 ≤ lineU s) : s.take ((lineU s).toNat + 1) = s.take (lineU s).toNat ++ [10] ∧ (lineU s).toNat < s.length ∧ (lineU s).toNat < 16 := by
  obtain ⟨o, ho⟩ := Int.eq_ofNat_of_zero_le h
  have h1 := (Lib.indexByte_some (show Lib.indexByte (s.take 16) 10 = o from ho)).1
  rw [ho]
  simp only [Int.toNat_natCast]
  rw [List.getElem?_take] at h1
  by_cases h16 : o < 16
  · rw [if_pos h16] at h1
    have hl := (List.getElem?_eq_some_iff.1 h1).1
    refine ⟨?_, hl, h16⟩
    rw [List.take_succ_eq_append_getElem hl]
    rw [List.getElem?_eq_getElem hl] at h1
    rw [Option.some.inj h1]
  · rw [if_neg h16] at h1
    cases h1

theorem suf (l : List UInt8) : Lib.hasSuffix (l ++ [10]) [13, 10] = (l.getLast? == some 13) := by
  rcases List.eq_nil_or_concat l with rfl | ⟨l', x, rfl⟩
  · rfl
  · simp [Lib.hasSuffix, List.isSuffixOf, List.isPrefixOf]
    rw [Bool.eq_iff_iff, beq_iff_eq, beq_iff_eq]
    exact ⟨fun h => h.symm, fun h => h.symm⟩

theorem num_head (s : List Int) (mark : UInt8) (low high : Int) :
    headU mark low high (U s) = if lineN s < 0 then (if s.length < 16 then .short else .bad) else if numBad s ⟨#[mark]⟩ low high = true then .bad else .ok (numK s ⟨#[mark]⟩).toNat ((lineN s).toNat + 1) := by
  unfold headU
  rw [lineN_U, U_len]
  by_cases h : lineU (U s) < 0
  · rw [if_pos h, if_pos h]
  · rw [if_neg h, if_neg h]
    obtain ⟨ht, hl, h16⟩ := take_at (U s) (by omega)
    obtain ⟨n, hn⟩ : ∃ n : Nat, lineU (U s) = n := ⟨_, (Int.toNat_of_nonneg (by omega)).symm⟩
    have hnl : lineN s = n := by rw [lineN_U, hn]
    rw [hn] at ht hl ⊢
    simp only [Int.toNat_natCast] at ht hl ⊢
    obtain ⟨l, hle⟩ : ∃ l, (U s).take n = l := ⟨_, rfl⟩
    have hll : l.length = n := by rw [← hle, List.length_take]; omega
    rw [hle] at ht ⊢
    have hT : (lineT s (lineN s)).data.toList = l ++ [10] := by
      unfold lineT
      rw [nums_U, U_take, hnl]
      have : ((n : Int) + 1).toNat = n + 1 := by omega
      rw [this, ht]
    have hA : numA s (lineN s) = (l.getLast? == some 13) := by unfold numA; rw [hT, suf]
    cases l with
    | nil =>
      have : numBad s ⟨#[mark]⟩ low high = true := by unfold numBad; rw [hA]; rfl
      rw [if_pos this]
      rfl
    | cons m r =>
      unfold lineHd
      simp only
      by_cases hr : r.getLast? = some 13
      · have hgl : (m :: r).getLast? = some 13 := by
          rw [List.getLast?_cons, hr]
          rfl
        rw [hgl] at hA
        have hL : (numL s (lineN s)).data.toList = (m :: r).dropLast := by
          unfold numL
          rw [data_mk]
          unfold Lib.trimSuffix
          rw [hT, suf, hgl]
          simp only [beq_self_eq_true, if_true]
          have e : (m :: r ++ [10]).length - [(13 : UInt8), 10].length = (m :: r).length - 1 := by simp
          rw [e, List.take_append_of_le_length (by omega), ← List.dropLast_eq_take]
        have hne : r ≠ [] := by rintro rfl; cases hr
        have hdl : (m :: r).dropLast = m :: r.dropLast := by
          cases r with
          | nil => exact absurd rfl hne
          | cons => rfl
        rw [hdl] at hL
        have hC : numC s (lineN s) ⟨#[mark]⟩ = (mark == m) := by
          unfold numC
          rw [hL]
          simp [Lib.hasPrefix, List.isPrefixOf]
        by_cases hm : m = mark
        · subst hm
          have hD : numD s (lineN s) ⟨#[m]⟩ = ⟨r.dropLast.toArray⟩ := by
            unfold numD Lib.trimPrefix
            rw [hL]
            simp [Lib.hasPrefix, List.isPrefixOf]
          have hK : numK s ⟨#[m]⟩ = (parseB ⟨r.dropLast.toArray⟩).1 := by unfold numK; rw [hD]
          have hB : numBad s ⟨#[m]⟩ low high = !((parseB ⟨r.dropLast.toArray⟩).2 && decide (low ≤ (parseB ⟨r.dropLast.toArray⟩).1) && decide ((parseB ⟨r.dropLast.toArray⟩).1 ≤ high)) := by
            unfold numBad
            rw [hA, hC, hD, hK]
            simp
          rw [hB, hK]
          by_cases hp : (parseB ⟨r.dropLast.toArray⟩).2 = true ∧ low ≤ (parseB ⟨r.dropLast.toArray⟩).1 ∧ (parseB ⟨r.dropLast.toArray⟩).1 ≤ high
          · rw [if_pos ⟨rfl, hr, hp⟩, if_neg (by simp [hp.1, hp.2.1, hp.2.2]), hll]
          · rw [if_neg (fun h => hp h.2.2), if_pos]
            rw [Bool.not_eq_true', Bool.eq_false_iff]
            intro h5
            simp only [Bool.and_eq_true, decide_eq_true_eq] at h5
            exact hp ⟨h5.1.1, h5.1.2, h5.2⟩
        · rw [if_neg (fun h => hm h.1), if_pos]
          unfold numBad
          rw [hC]
          have : (mark == m) = false := beq_eq_false_iff_ne.2 (fun h => hm h.symm)
          rw [this]
          simp
      · rw [if_neg (fun h => hr h.2.1), if_pos]
        unfold numBad
        cases r with
        | nil =>
          have hC : numA s (lineN s) = false ∨ numC s (lineN s) ⟨#[mark]⟩ = false := by
            cases hq : numA s (lineN s) with
            | false => exact .inl rfl
            | true =>
              refine .inr ?_
              have hL : (numL s (lineN s)).data.toList = [] := by
                unfold numL
                rw [data_mk]
                unfold Lib.trimSuffix
                have : Lib.hasSuffix (lineT s (lineN s)).data.toList [13, 10] = true := hq
                rw [this, hT]
                rfl
              unfold numC
              rw [hL]
              rfl
          rcases hC with h1 | h1 <;> rw [h1] <;> simp
        | cons x r =>
          have : numA s (lineN s) = false := by
            rw [hA, List.getLast?_cons_cons]
            exact beq_eq_false_iff_ne.2 hr
          rw [this]
          rfl
end Go.Proofs.YtmbfapgamcbajaaDoor.X
namespace Go.Proofs.YtmbfapgamcbajaaDoor.X
open Go.RowKit

abbrev Rq := List ByteArray × Int × Int

/-- The words of a row, so many, out of the bytes left; at_ are taken. -/
def rowU : Nat → List UInt8 → Nat → List ByteArray → Rq
  | 0, _, at_, l => (l, at_, 0)
  | left + 1, s, at_, l =>
    match headU 36 0 512 s with
    | .short => ([], 0, 0)
    | .bad => ([], 0, 10)
    | .ok k n =>
      if s.length < n + k + 2 then ([], 0, 0)
      else if ((s.drop n).drop k).take 2 = [13, 10] then rowU left ((s.drop n).drop (k + 2)) (at_ + n + k + 2) (l ++ [⟨((s.drop n).take k).toArray⟩])
      else ([], 0, 10)

def rowTop (s : List UInt8) : Rq :=
  match headU 42 1 32 s with
  | .short => ([], 0, 0)
  | .bad => ([], 0, 10)
  | .ok k n => rowU k (s.drop n) n []

theorem head_n {mark : UInt8} {low high : Int} {s : List UInt8} {k n : Nat} (h : headU mark low high s = .ok k n) : n ≤ s.length ∧ 3 ≤ n ∧ n ≤ 16 := by
  unfold headU at h
  split at h
  · split at h <;> cases h
  · rename_i h0
    obtain ⟨_, hl, h16⟩ := take_at s (by omega)
    unfold lineHd at h
    split at h
    · cases h
    · rename_i m r heq
      split at h
      · rename_i hh
        injection h with h1 h2
        have h3 : (s.take (lineU s).toNat).length = (lineU s).toNat := by rw [List.length_take]; omega
        rw [heq] at h3
        have : r ≠ [] := by rintro rfl; cases hh.2.1
        have : 0 < r.length := List.length_pos_iff.2 this
        simp at h3 h2
        omega
      · cases h

theorem wordBad_U (s : List Int) (n : Nat) : wordBad s n = !(decide (((U s).drop n).take 2 = [13, 10])) := by
  unfold wordBad
  rw [Lib.strOfNums_toList]
  have : Lib.bytesOf ((s.take (n + 2)).drop n) = ((U s).drop n).take 2 := by
    have e : (s.take (n + 2)).drop n = (s.drop n).take 2 := by rw [List.drop_take]; congr 1; omega
    rw [e]
    show U ((s.drop n).take 2) = _
    rw [U_take, U_drop]
  rw [this]
  by_cases h : ((U s).drop n).take 2 = [13, 10]
  · rw [decide_eq_true h, h]; rfl
  · rw [decide_eq_false h]; exact bne_iff_ne.2 h

theorem rowL_U (b : List Int) : ∀ (left at_ : Nat) (l : List ByteArray), at_ ≤ b.length → rowL b left at_ l = rowU left ((U b).drop at_) at_ l := by
  intro left
  induction left with
  | zero => intro at_ l _; rfl
  | succ left ih =>
    intro at_ l hat
    have hh := num_head (b.drop at_) 36 0 512
    rw [U_drop] at hh
    have hlen : (b.drop at_).length = b.length - at_ := List.length_drop
    unfold rowL rowU
    by_cases h0 : lineN (b.drop at_) < 0
    · rw [if_pos h0] at hh ⊢
      rw [hlen] at hh
      by_cases h16 : b.length - at_ < 16
      · rw [if_pos h16] at hh ⊢; rw [hh]
      · rw [if_neg h16] at hh ⊢; rw [hh]
    · rw [if_neg h0] at hh ⊢
      cases hb : numBad (b.drop at_) ⟨#[36]⟩ 0 512 with
      | true => rw [hb, if_pos rfl] at hh; rw [if_pos rfl, hh]
      | false =>
        rw [hb, if_neg (by decide)] at hh
        rw [if_neg (by decide), hh]
        obtain ⟨hn1, _, _⟩ := head_n hh
        simp only
        obtain ⟨k, hk⟩ : ∃ k, (numK (b.drop at_) ⟨#[36]⟩).toNat = k := ⟨_, rfl⟩
        obtain ⟨n, hn⟩ : ∃ n, (lineN (b.drop at_)).toNat = n := ⟨_, rfl⟩
        rw [hk, hn] at hh ⊢
        rw [hn] at hn1
        rw [List.length_drop, U_len] at hn1 ⊢
        by_cases hs : b.length < at_ + n + 1 + k + 2
        · rw [if_pos hs, if_pos (by omega)]
        · rw [if_neg hs, if_neg (show ¬ b.length - at_ < n + 1 + k + 2 by omega), wordBad_U, U_drop]
          simp only [List.drop_drop, ← Nat.add_assoc]
          by_cases hw : ((U b).drop (at_ + n + 1 + k)).take 2 = [13, 10]
          · rw [if_neg (by simp [hw]), if_pos hw, ih _ _ (by omega), nums_mk, U_take, U_drop]
          · rw [if_pos (by simp [hw]), if_neg hw]

theorem rowB_U (b : List Int) : rowB b = rowTop (U b) := by
  have hh := num_head b 42 1 32
  unfold rowB rowTop
  by_cases h0 : lineN b < 0
  · rw [if_pos h0] at hh ⊢
    by_cases h16 : b.length < 16
    · rw [if_pos h16] at hh ⊢; rw [hh]
    · rw [if_neg h16] at hh ⊢; rw [hh]
  · rw [if_neg h0] at hh ⊢
    cases hb : numBad b ⟨#[42]⟩ 1 32 with
    | true => rw [hb, if_pos rfl] at hh; rw [if_pos rfl, hh]
    | false =>
      rw [hb, if_neg (by decide)] at hh
      rw [if_neg (by decide), hh]
      obtain ⟨hn1, _, _⟩ := head_n hh
      rw [U_len] at hn1
      exact rowL_U b _ _ _ hn1

/-! The words of a line. -/
def wordsU : List UInt8 → List UInt8 → List ByteArray
  | acc, [] => if acc = [] then [] else [⟨acc.toArray⟩]
  | acc, c :: r => if c = 32 then (if acc = [] then wordsU [] r else ⟨acc.toArray⟩ :: wordsU [] r) else wordsU (acc ++ [c]) r

theorem words_none : ∀ (p acc : List UInt8), (∀ c ∈ p, c ≠ 32) → wordsU acc p = if acc ++ p = [] then [] else [⟨(acc ++ p).toArray⟩]
  | [], acc, _ => by simp [wordsU]
  | c :: p, acc, h => by
    unfold wordsU
    rw [if_neg (h c List.mem_cons_self), words_none p (acc ++ [c]) (fun d hd => h d (List.mem_cons_of_mem _ hd))]
    simp
theorem words_some : ∀ (p r acc : List UInt8), (∀ c ∈ p, c ≠ 32) → wordsU acc (p ++ 32 :: r) = if acc ++ p = [] then wordsU [] r else ⟨(acc ++ p).toArray⟩ :: wordsU [] r
  | [], r, acc, _ => by simp [wordsU]
  | c :: p, r, acc, h => by
    rw [List.cons_append]
    conv => lhs; rw [wordsU]
    rw [if_neg (h c List.mem_cons_self), words_some p r (acc ++ [c]) (fun d hd => h d (List.mem_cons_of_mem _ hd))]
    simp

theorem splitK_words : ∀ (k : Nat) (s : List UInt8), Lib.count s [32] = k → ((Lib.splitK [32] 0 k s).filter (fun p => p != [])).map (fun p => (⟨p.toArray⟩ : ByteArray)) = wordsU [] s := by
  intro k
  induction k with
  | zero =>
    intro s hc
    rw [Lib.count_one] at hc
    have hn : ∀ c ∈ s, c ≠ 32 := by
      intro c hcs e
      subst e
      have := List.count_pos_iff.2 hcs
      omega
    rw [words_none s [] hn]
    unfold Lib.splitK
    cases s <;> simp
  | succ k ih =>
    intro s hc
    unfold Lib.splitK
    have hc' := hc
    rw [Lib.count_one] at hc'
    rw [Lib.index_one]
    have hmem : (32 : UInt8) ∈ s := List.count_pos_iff.1 (by omega)
    have hne : Lib.indexByte s 32 ≠ -1 := by
      intro e
      obtain ⟨i, hi⟩ := List.getElem?_of_mem hmem
      exact Lib.indexByte_none e i hi
    have hge := Lib.indexByte_ge s 32
    obtain ⟨o, ho⟩ := Int.eq_ofNat_of_zero_le (show 0 ≤ Lib.indexByte s 32 by omega)
    obtain ⟨h1, h2⟩ := Lib.indexByte_some ho
    rw [if_neg (by rw [beq_iff_eq]; exact hne), ho]
    simp only [Int.toNat_natCast, Nat.add_zero, List.length_singleton]
    have hl := (List.getElem?_eq_some_iff.1 h1).1
    have hs : s = s.take o ++ 32 :: s.drop (o + 1) := by
      have h3 : s[o] = 32 := (List.getElem?_eq_some_iff.1 h1).2
      rw [← h3, List.getElem_cons_drop]
      exact (List.take_append_drop o s).symm
    have hp : ∀ c ∈ s.take o, c ≠ 32 := by
      intro c hcm e
      subst e
      obtain ⟨i, hi⟩ := List.getElem?_of_mem hcm
      rw [List.getElem?_take] at hi
      split at hi
      · exact h2 i (by assumption) hi
      · cases hi
    have hcd : Lib.count (s.drop (o + 1)) [32] = k := by
      rw [Lib.count_one]
      have : s.count 32 = (s.take o).count 32 + (1 + (s.drop (o + 1)).count 32) := by
        conv => lhs; rw [hs]
        rw [List.count_append, List.count_cons_self]
        omega
      have h0 : (s.take o).count 32 = 0 := by
        rw [List.count_eq_zero]
        intro hm
        exact hp 32 hm rfl
      omega
    have hw := words_some (s.take o) (s.drop (o + 1)) [] hp
    rw [← hs, List.nil_append] at hw
    rw [hw, List.filter_cons, ← ih _ hcd]
    by_cases he : s.take o = []
    · rw [if_pos he, he]; simp
    · rw [if_neg he]
      simp [he]
end Go.Proofs.YtmbfapgamcbajaaDoor.X
namespace Go.Proofs.YtmbfapgamcbajaaDoor.X
open Go.RowKit

def nextU (s : List UInt8) : Rq :=
  if s.head? = some 42 then rowTop s
  else if Lib.indexByte (s.take 600) 10 < 0 then (if s.length < 600 then ([], 0, 0) else ([], 0, 10))
  else if 32 < (wordsU [] (Lib.trimSuffix (s.take (Lib.indexByte (s.take 600) 10).toNat) [13])).length then ([], 0, 10)
  else (wordsU [] (Lib.trimSuffix (s.take (Lib.indexByte (s.take 600) 10).toNat) [13]), Lib.indexByte (s.take 600) 10 + 1, 0)

theorem pieces_U (s : List Int) : (piecesOf (lineOf s)).filter someB = wordsU [] (Lib.trimSuffix (U s) [13]) := by
  rw [← splitK_words _ _ rfl]
  have hd : (lineOf s).data.toList = Lib.trimSuffix (U s) [13] := by unfold lineOf; rw [data_mk, nums_U]
  have h1 := Lib.splitB_data ⟨#[32]⟩ 0 (Lib.countB (lineOf s) ⟨#[32]⟩) (lineOf s)
  rw [hd] at h1
  have hc : Lib.countB (lineOf s) ⟨#[32]⟩ = Lib.count (Lib.trimSuffix (U s) [13]) [32] := by
    show Lib.count (lineOf s).data.toList [32] = _
    rw [hd]
  rw [hc] at h1
  rw [← h1]
  unfold piecesOf
  rw [hc, List.filter_map, List.map_map]
  have e1 : ((fun p : List UInt8 => (⟨p.toArray⟩ : ByteArray)) ∘ fun x : ByteArray => x.data.toList) = id := by
    funext x
    exact mk_data x
  have e2 : ((fun p : List UInt8 => p != []) ∘ fun x : ByteArray => x.data.toList) = someB := by
    funext x
    show (x.data.toList != []) = (x.toList != [])
    rw [toList_data]
  rw [e1, e2, List.map_id]

theorem starts_U (b : List Int) : starts b = true ↔ (U b).head? = some 42 := by
  unfold starts
  rw [Lib.strOfNums_toList]
  cases b with
  | nil => simp [U, Go.Lib.bytesOf]
  | cons x r => simp [U, Go.Lib.bytesOf]
theorem nextB_U (b : List Int) : nextB b = nextU (U b) := by
  unfold nextB nextU
  have he : endOf (b.take 600) = Lib.indexByte ((U b).take 600) 10 := by unfold endOf; rw [← U_take]
  rw [rowB_U, he, U_len, pieces_U, U_take]
  by_cases h : starts b = true
  · rw [if_pos h, if_pos ((starts_U b).1 h)]
  · rw [if_neg h, if_neg (fun h' => h ((starts_U b).2 h'))]

/-! What comes behind. -/
theorem idx_app : ∀ (l m : List UInt8) (c : UInt8), 0 ≤ Lib.indexByte l c → Lib.indexByte (l ++ m) c = Lib.indexByte l c
  | [], m, c, h => by simp [Lib.indexByte] at h
  | b :: l, m, c, h => by
    rw [List.cons_append]
    unfold Lib.indexByte at h ⊢
    by_cases hb : (b == c) = true
    · rw [if_pos hb, if_pos hb]
    · rw [if_neg hb] at h ⊢
      rw [if_neg hb]
      by_cases h1 : (Lib.indexByte l c == -1) = true
      · rw [if_pos h1] at h; omega
      · rw [if_neg h1] at h ⊢
        have h2 := Lib.indexByte_ge l c
        have h3 : Lib.indexByte l c ≠ -1 := fun e => h1 (beq_iff_eq.2 e)
        rw [idx_app l m c (by omega), if_neg h1]
theorem idx_put : ∀ (p r : List UInt8) (c : UInt8), (∀ d ∈ p, d ≠ c) → Lib.indexByte (p ++ c :: r) c = p.length
  | [], r, c, _ => by simp [Lib.indexByte]
  | b :: p, r, c, h => by
    have ih := idx_put p r c (fun d hd => h d (List.mem_cons_of_mem _ hd))
    rw [List.cons_append]
    unfold Lib.indexByte
    rw [ih, if_neg (by rw [beq_iff_eq]; exact h b List.mem_cons_self), if_neg (by rw [beq_iff_eq]; omega)]
    simp

theorem line_app (s t : List UInt8) (h : 0 ≤ lineU s) : lineU (s ++ t) = lineU s := by
  unfold lineU at h ⊢
  rw [List.take_append, idx_app _ _ _ h]
theorem head_grows (mark : UInt8) (low high : Int) (s t : List UInt8) : headU mark low high s = .short ∨ headU mark low high (s ++ t) = headU mark low high s := by
  by_cases h : lineU s < 0
  · by_cases h16 : s.length < 16
    · left; unfold headU; rw [if_pos h, if_pos h16]
    · right
      have e : lineU (s ++ t) = lineU s := by unfold lineU; rw [List.take_append_of_le_length (by omega)]
      unfold headU
      rw [e, if_pos h, if_pos h, if_neg h16, if_neg (by rw [List.length_append]; omega)]
  · right
    have e := line_app s t (by omega)
    obtain ⟨_, hl, _⟩ := take_at s (by omega)
    unfold headU
    rw [e, if_neg h, if_neg h, List.take_append_of_le_length (by omega)]

/-- What a row may come to. -/
theorem row_fits : ∀ (left : Nat) (s : List UInt8) (a : Nat) (l : List ByteArray), rowU left s a l = ([], 0, 0) ∨ rowU left s a l = ([], 0, 10) ∨ ∃ l' n : _, rowU left s a l = (l ++ l', ((n : Nat) : Int), 0) ∧ a ≤ n ∧ n ≤ a + s.length ∧ l'.length = left := by
  intro left
  induction left with
  | zero => intro s a l; exact .inr (.inr ⟨[], a, by simp [rowU], by omega, by omega, rfl⟩)
  | succ left ih =>
    intro s a l
    unfold rowU
    cases hh : headU 36 0 512 s with
    | short => exact .inl rfl
    | bad => exact .inr (.inl rfl)
    | ok k n =>
      simp only
      obtain ⟨h1, h2, h3⟩ := head_n hh
      by_cases hs : s.length < n + k + 2
      · rw [if_pos hs]; exact .inl rfl
      · rw [if_neg hs]
        by_cases hw : ((s.drop n).drop k).take 2 = [13, 10]
        · rw [if_pos hw]
          rcases ih ((s.drop n).drop (k + 2)) (a + n + k + 2) (l ++ [⟨((s.drop n).take k).toArray⟩]) with h | h | ⟨l', m, h, h4, h5, h6⟩
          · exact .inl h
          · exact .inr (.inl h)
          · rw [List.length_drop, List.length_drop] at h5
            exact .inr (.inr ⟨_, m, by rw [h, List.append_assoc], by omega, by omega, by simp [h6]⟩)
        · rw [if_neg hw]; exact .inr (.inl rfl)
theorem row_grows : ∀ (left : Nat) (s t : List UInt8) (a : Nat) (l : List ByteArray), rowU left s a l = ([], 0, 0) ∨ rowU left (s ++ t) a l = rowU left s a l := by
  intro left
  induction left with
  | zero => intro s t a l; exact .inr rfl
  | succ left ih =>
    intro s t a l
    unfold rowU
    rcases head_grows 36 0 512 s t with h | h
    · rw [h]; exact .inl rfl
    · rw [h]
      cases hh : headU 36 0 512 s with
      | short => exact .inl rfl
      | bad => exact .inr rfl
      | ok k n =>
        simp only
        obtain ⟨h1, h2, h3⟩ := head_n hh
        by_cases hs : s.length < n + k + 2
        · rw [if_pos hs]; exact .inl rfl
        · rw [if_neg hs, if_neg (show ¬ (s ++ t).length < n + k + 2 by rw [List.length_append]; omega)]
          have e1 : (s ++ t).drop n = s.drop n ++ t := by rw [List.drop_append_of_le_length (by omega)]
          have hl : (s.drop n).length = s.length - n := List.length_drop
          have e2 : (s.drop n ++ t).drop k = (s.drop n).drop k ++ t := by rw [List.drop_append_of_le_length (by omega)]
          have hl2 : ((s.drop n).drop k).length = s.length - n - k := by rw [List.length_drop, hl]
          have e3 : ((s.drop n).drop k ++ t).take 2 = ((s.drop n).drop k).take 2 := by rw [List.take_append_of_le_length (by omega)]
          have e4 : (s.drop n ++ t).drop (k + 2) = (s.drop n).drop (k + 2) ++ t := by rw [List.drop_append_of_le_length (by omega)]
          have e5 : (s.drop n ++ t).take k = (s.drop n).take k := by rw [List.take_append_of_le_length (by omega)]
          rw [e1, e2, e3, e4, e5]
          by_cases hw : ((s.drop n).drop k).take 2 = [13, 10]
          · rw [if_pos hw, if_pos hw]; exact ih _ _ _ _
          · rw [if_neg hw, if_neg hw]; exact .inr rfl
theorem top_grows (s t : List UInt8) : rowTop s = ([], 0, 0) ∨ rowTop (s ++ t) = rowTop s := by
  unfold rowTop
  rcases head_grows 42 1 32 s t with h | h
  · rw [h]; exact .inl rfl
  · rw [h]
    cases hh : headU 42 1 32 s with
    | short => exact .inl rfl
    | bad => exact .inr rfl
    | ok k n =>
      simp only
      obtain ⟨h1, _, _⟩ := head_n hh
      have e1 : (s ++ t).drop n = s.drop n ++ t := by rw [List.drop_append_of_le_length (by omega)]
      rw [e1]
      exact row_grows _ _ _ _ _

/-- What is a request stays one; what is none stays none. -/
theorem next_grows (s t : List UInt8) : nextU s = ([], 0, 0) ∨ nextU (s ++ t) = nextU s := by
  cases s with
  | nil => left; rfl
  | cons c r =>
    unfold nextU
    have e0 : (c :: r ++ t).head? = (c :: r).head? := rfl
    rw [e0]
    by_cases hc : (c :: r).head? = some 42
    · rw [if_pos hc, if_pos hc]; exact top_grows _ _
    · rw [if_neg hc, if_neg hc]
      generalize c :: r = s
      by_cases h : Lib.indexByte (s.take 600) 10 < 0
      · by_cases h6 : s.length < 600
        · left; rw [if_pos h, if_pos h6]
        · right
          rw [List.take_append_of_le_length (by omega), if_pos h, if_pos h, if_neg h6, if_neg (by rw [List.length_append]; omega)]
      · right
        obtain ⟨o, ho⟩ := Int.eq_ofNat_of_zero_le (show 0 ≤ Lib.indexByte (s.take 600) 10 by omega)
        have h1 := (List.getElem?_eq_some_iff.1 (Lib.indexByte_some ho).1).1
        rw [List.length_take] at h1
        have e : Lib.indexByte ((s ++ t).take 600) 10 = Lib.indexByte (s.take 600) 10 := by rw [List.take_append, idx_app _ _ _ (by omega)]
        rw [e, ho]
        simp only [Int.toNat_natCast]
        rw [List.take_append_of_le_length (by omega)]
        simp only [if_neg (show ¬ ((o : Int) < 0) by omega)]

theorem head_k {mark : UInt8} {low high : Int} {s : List UInt8} {k n : Nat} (h : headU mark low high s = .ok k n) (h0 : 0 ≤ low) : low ≤ k ∧ (k : Int) ≤ high := by
  unfold headU at h
  split at h
  · split at h <;> cases h
  · unfold lineHd at h
    split at h
    · cases h
    · split at h
      · rename_i hh
        injection h with h1 h2
        omega
      · cases h

theorem next_fits (s : List UInt8) : nextU s = ([], 0, 0) ∨ nextU s = ([], 0, 10) ∨ ∃ l n : _, nextU s = (l, ((n : Nat) : Int), 0) ∧ 0 < n ∧ n ≤ s.length ∧ l.length ≤ 32 := by
  unfold nextU
  split
  · unfold rowTop
    cases hh : headU 42 1 32 s with
    | short => exact .inl rfl
    | bad => exact .inr (.inl rfl)
    | ok k n =>
      simp only
      obtain ⟨h1, h2, h3⟩ := head_n hh
      have h32 := (head_k hh (by decide)).2
      rcases row_fits k (s.drop n) n [] with h | h | ⟨l', m, h, h4, h5, h6⟩
      · exact .inl h
      · exact .inr (.inl h)
      · rw [List.length_drop] at h5
        exact .inr (.inr ⟨_, m, h, by omega, by omega, by simp; omega⟩)
  · split
    · split
      · exact .inl rfl
      · exact .inr (.inl rfl)
    · split
      · exact .inr (.inl rfl)
      · rename_i h h32
        obtain ⟨o, ho⟩ := Int.eq_ofNat_of_zero_le (show 0 ≤ Lib.indexByte (s.take 600) 10 by omega)
        have h1 := (List.getElem?_eq_some_iff.1 (Lib.indexByte_some ho).1).1
        rw [List.length_take] at h1
        exact .inr (.inr ⟨_, o + 1, by rw [ho]; rfl, by omega, by omega, by rw [ho] at h32; omega⟩)
end Go.Proofs.YtmbfapgamcbajaaDoor.X
namespace Go.Proofs.YtmbfapgamcbajaaDoor.X
open Go.RowKit Go.Lib

def lineP (mark : UInt8) (n : Nat) : List UInt8 := mark :: Lib.itoa (n : Int) ++ [13, 10]
def bulkU (w : ByteArray) : List UInt8 := lineP 36 w.size ++ w.data.toList ++ [13, 10]
def putU (l : List ByteArray) : List UInt8 := lineP 42 l.length ++ (l.map bulkU).flatten

theorem itoaN_len (n : Nat) (h : n < 10000000000) : (Lib.itoa (n : Int)).length ≤ 10 := by
  rw [show Lib.itoa (n : Int) = decDigits n by unfold Lib.itoa; rw [if_neg (by omega), Int.toNat_natCast]]
  exact dec_len 10 n (by decide) (by omega)
theorem itoaN_ne (n : Nat) (c : UInt8) (hc : c ∈ Lib.itoa (n : Int)) : c ≠ 10 := by
  rw [show Lib.itoa (n : Int) = decDigits n by unfold Lib.itoa; rw [if_neg (by omega), Int.toNat_natCast]] at hc
  have := dec_digit n c hc
  rintro rfl
  have e : (10 : UInt8).toNat = 10 := rfl
  omega
theorem lineP_len (mark : UInt8) (n : Nat) : (lineP mark n).length = (Lib.itoa (n : Int)).length + 3 := by simp [lineP]

theorem head_put (mark : UInt8) (low high : Int) (n : Nat) (hn : n < 10000000000) (hm : mark ≠ 10) (r : List UInt8) :
    headU mark low high (lineP mark n ++ r) = if low ≤ n ∧ (n : Int) ≤ high then .ok n (lineP mark n).length else .bad := by
  have hp : ∀ d ∈ mark :: Lib.itoa (n : Int) ++ [13], d ≠ 10 := by
    intro d hd
    rcases List.mem_append.1 hd with hd | hd
    · rcases List.mem_cons.1 hd with rfl | hd
      · exact hm
      · exact itoaN_ne n d hd
    · rw [List.mem_singleton.1 hd]; decide
  have hl := itoaN_len n hn
  have hpl : (mark :: Lib.itoa (n : Int) ++ [13]).length = (Lib.itoa (n : Int)).length + 2 := by simp
  have hs : lineP mark n ++ r = (mark :: Lib.itoa (n : Int) ++ [13]) ++ 10 :: r := by simp [lineP]
  obtain ⟨p, hpe⟩ : ∃ p, p = mark :: Lib.itoa (n : Int) ++ [13] := ⟨_, rfl⟩
  rw [hs, ← hpe]
  rw [← hpe] at hp hpl
  have hline : lineU (p ++ 10 :: r) = p.length := by
    unfold lineU
    rw [List.take_append, List.take_of_length_le (by omega)]
    obtain ⟨k, hk⟩ : ∃ k, 16 - p.length = k + 1 := ⟨15 - p.length, by omega⟩
    rw [hk, List.take_succ_cons]
    exact idx_put p _ 10 hp
  unfold headU
  rw [hline, if_neg (by omega)]
  simp only [Int.toNat_natCast]
  rw [List.take_append_of_le_length (Nat.le_refl _), List.take_length, hpe]
  unfold lineHd
  rw [List.cons_append]
  simp only
  have hdl : (Lib.itoa (n : Int) ++ [13]).dropLast = Lib.itoa (n : Int) := by simp
  have hgl : (Lib.itoa (n : Int) ++ [13]).getLast? = some 13 := by simp
  have hparse := parse_text (n : Int) (by omega) (by omega)
  unfold textB at hparse
  rw [hdl, hgl, hparse]
  simp only [Int.toNat_natCast, true_and]
  have e : (mark :: (Lib.itoa (n : Int) ++ [13])).length + 1 = (lineP mark n).length := by rw [lineP_len]; simp
  rw [e]

theorem row_back : ∀ (l : List ByteArray) (r : List UInt8) (a : Nat) (acc : List ByteArray), (∀ w ∈ l, w.size ≤ 512) → rowU l.length ((l.map bulkU).flatten ++ r) a acc = (acc ++ l, ((a + (l.map bulkU).flatten.length : Nat) : Int), 0)
  | [], r, a, acc, _ => by simp [rowU]
  | w :: l, r, a, acc, h => by
    have hw := h w List.mem_cons_self
    have ih := fun a acc => row_back l r a acc (fun v hv => h v (List.mem_cons_of_mem _ hv))
    simp only [List.length_cons, List.map_cons, List.flatten_cons]
    unfold rowU
    have hs : bulkU w ++ (l.map bulkU).flatten ++ r = lineP 36 w.size ++ (w.data.toList ++ ([13, 10] ++ ((l.map bulkU).flatten ++ r))) := by simp [bulkU, List.append_assoc]
    rw [hs, head_put 36 0 512 w.size (by omega) (by decide), if_pos ⟨by omega, by omega⟩]
    simp only
    have e1 : (lineP 36 w.size ++ (w.data.toList ++ ([13, 10] ++ ((l.map bulkU).flatten ++ r)))).drop (lineP 36 w.size).length = w.data.toList ++ ([13, 10] ++ ((l.map bulkU).flatten ++ r)) := by simp
    have hsz : w.data.toList.length = w.size := size_data w
    have e2 : (w.data.toList ++ ([13, 10] ++ ((l.map bulkU).flatten ++ r))).drop w.size = [13, 10] ++ ((l.map bulkU).flatten ++ r) := by rw [← hsz]; simp
    have e3 : (w.data.toList ++ ([13, 10] ++ ((l.map bulkU).flatten ++ r))).take w.size = w.data.toList := by rw [← hsz]; simp
    have e4 : (w.data.toList ++ ([13, 10] ++ ((l.map bulkU).flatten ++ r))).drop (w.size + 2) = (l.map bulkU).flatten ++ r := by rw [← List.drop_drop, e2]; rfl
    rw [if_neg (by simp only [List.length_append, hsz]; simp; omega), e1, e2, e3, e4, if_pos (by rfl), ih, mk_data, List.append_assoc]
    have hbl : (bulkU w).length = (lineP 36 w.size).length + w.size + 2 := by simp only [bulkU, List.length_append, hsz]; rfl
    rw [List.length_append, hbl]
    congr 2
    simp only [Nat.add_assoc]

theorem top_back (l : List ByteArray) (r : List UInt8) (hl : l.length < 10000000000) (h : ∀ w ∈ l, w.size ≤ 512) :
    rowTop (putU l ++ r) = if 1 ≤ l.length ∧ l.length ≤ 32 then (l, (((putU l).length : Nat) : Int), 0) else ([], 0, 10) := by
  unfold rowTop putU
  rw [List.append_assoc, head_put 42 1 32 l.length hl (by decide)]
  by_cases h1 : 1 ≤ l.length ∧ l.length ≤ 32
  · rw [if_pos ⟨by omega, by omega⟩, if_pos h1]
    simp only
    rw [List.drop_left, row_back l r _ _ h, List.nil_append, List.length_append]
  · rw [if_neg (by omega), if_neg h1]

theorem put_head (l : List ByteArray) (r : List UInt8) : (putU l ++ r).head? = some 42 := by simp [putU, lineP]
theorem next_back (l : List ByteArray) (r : List UInt8) (hl : l.length < 10000000000) (h : ∀ w ∈ l, w.size ≤ 512) :
    nextU (putU l ++ r) = if 1 ≤ l.length ∧ l.length ≤ 32 then (l, (((putU l).length : Nat) : Int), 0) else ([], 0, 10) := by
  unfold nextU
  rw [if_pos (put_head l r), top_back l r hl h]

/-- A word that is too long. -/
theorem next_long (w : ByteArray) (h : 512 < w.size) (h9 : w.size < 10000000000) : nextU (putU [w]) = ([], 0, 10) := by
  have e : putU [w] = putU [w] ++ [] := by simp
  rw [e]
  unfold nextU
  rw [if_pos (put_head [w] [])]
  unfold rowTop putU
  rw [List.append_assoc, head_put 42 1 32 _ (by simp) (by decide), if_pos ⟨by simp, by simp⟩]
  simp only
  rw [List.drop_left]
  have hs : ([w].map bulkU).flatten ++ [] = lineP 36 w.size ++ (w.data.toList ++ [13, 10]) := by simp [bulkU]
  rw [hs]
  show rowU 1 _ _ _ = _
  unfold rowU
  rw [head_put 36 0 512 w.size h9 (by decide), if_neg (by omega)]
end Go.Proofs.YtmbfapgamcbajaaDoor.X
