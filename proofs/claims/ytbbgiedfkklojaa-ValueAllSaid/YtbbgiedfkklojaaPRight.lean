/- Plain: what Right, Type, Size and Same give, in the program and in the document's answer. -/
import Derived.Test.YtbbgiedfkklojaaPSmall
import Derived.Test.YtbbgiedfkklojaaEType
import Derived.Test.YtbbgiedfkklojaaEUnlike
import Derived.Test.YtbbgiedfkklojaaXx15h
import Derived.Test.YtbbgiedfkklojaaXx8
import Derived.Test.YtbbgiedfkklojaaXx8
import Derived.Test.YtbbgiedfkklojaaXx16
import Derived.Test.YtbbgiedfkklojaaXx16
import Derived.Test.YtbbgiedfkklojaaXx16
set_option linter.unusedVariables false
set_option linter.unusedSimpArgs false
namespace Go.Proofs.Ytbbgiedfkklojaa.X
open Go.RowKit Go.Lib Go.Proofs.YtbbgiedfkklojaaW.PrintWords Go.Proofs.YtbbgiedfkklojaaW.PrintMore

abbrev SP := S60
abbrev SM := S62

theorem nilB (s : ByteArray) : s.toList = ([] : List UInt8) ↔ s = (⟨#[]⟩ : ByteArray) := by
  rw [← bytes_inj]
  constructor
  · intro h; rw [h, Go.ByteArray.toList_eq]
  · intro h; rw [h, Go.ByteArray.toList_eq]

theorem cmpB_lt (a b : ByteArray) : cmpB a b < 0 ↔ ltB a b = true := by
  rcases cmpB_iff a b with ⟨h1, h2⟩ | ⟨h1, h2⟩
  · rw [h2]; constructor
    · intro h; omega
    · intro h; cases h
  · exact ⟨fun _ => h2, fun _ => h1⟩
theorem risesPair_map : ∀ l : List SP, risesPair l = risesB (l.map (·.f0))
  | [] => rfl
  | [_] => rfl
  | a :: b :: r => by
    have ih := risesPair_map (b :: r)
    have e1 : risesPair (a :: b :: r) = (decide (ordPair a b < 0) && risesPair (b :: r)) := rfl
    have e2 : risesB ((a :: b :: r).map (·.f0)) = (ltB a.f0 b.f0 && risesB ((b :: r).map (·.f0))) := rfl
    rw [e1, e2, ih]
    congr 1
    unfold ordPair
    by_cases h : ltB a.f0 b.f0 = true
    · rw [h]; exact decide_eq_true ((cmpB_lt _ _).2 h)
    · rw [Bool.not_eq_true] at h
      rw [h]
      exact decide_eq_false (fun h2 => by rw [(cmpB_lt _ _).1 h2] at h; cases h)

/-- Marks in order: each pair. -/
def ltM (a b : SM) : Prop := a.f1 < b.f1 ∨ (a.f1 = b.f1 ∧ ltB a.f0 b.f0 = true)
theorem ordMark_lt (a b : SM) : ordMark a b < 0 ↔ ltM a b := by
  unfold ordMark ltM cmpI
  by_cases h1 : a.f1 < b.f1
  · simp [h1]
  · by_cases h2 : b.f1 < a.f1
    · simp only [h1, h2, if_false, if_true]
      constructor
      · intro h; exfalso; simp at h
      · rintro (h | ⟨h, _⟩)
        · exact absurd h (by simp)
        · omega
    · simp only [h1, h2, if_false, if_true]
      rw [cmpB_lt]
      constructor
      · intro h; exact .inr ⟨by omega, h⟩
      · rintro (h | ⟨_, h⟩)
        · exact absurd h (by simp)
        · exact h
theorem ltB_trans (a b c : ByteArray) (h1 : ltB a b = true) (h2 : ltB b c = true) : ltB a c = true := by
  unfold ltB at *
  rw [Go.Proofs.bytesLess_eq, decide_eq_true_eq] at *
  exact List.lt_trans h1 h2
theorem ltM_trans (a b c : SM) (h1 : ltM a b) (h2 : ltM b c) : ltM a c := by
  unfold ltM at *
  rcases h1 with h1 | ⟨h1, g1⟩ <;> rcases h2 with h2 | ⟨h2, g2⟩
  · exact .inl (by omega)
  · exact .inl (by omega)
  · exact .inl (by omega)
  · exact .inr ⟨by omega, ltB_trans _ _ _ g1 g2⟩
theorem risesMark_pw : ∀ l : List SM, risesMark l = true ↔ l.Pairwise ltM
  | [] => by simp [risesMark, risesG]
  | [a] => by simp [risesMark, risesG]
  | a :: b :: r => by
    have ih := risesMark_pw (b :: r)
    have e1 : risesMark (a :: b :: r) = (decide (ordMark a b < 0) && risesMark (b :: r)) := rfl
    rw [e1, Bool.and_eq_true, ih, decide_eq_true_eq, ordMark_lt, List.pairwise_cons (a := a) (l := b :: r)]
    constructor
    · rintro ⟨h1, h2⟩
      refine ⟨fun x hx => ?_, h2⟩
      rcases List.mem_cons.1 hx with rfl | hx
      · exact h1
      · exact ltM_trans _ _ _ h1 ((List.pairwise_cons.1 h2).1 x hx)
    · rintro ⟨h1, h2⟩
      exact ⟨h1 b List.mem_cons_self, h2⟩
def MarksP (l : List SM) : Prop := l.Pairwise (fun a b => a.f0 ≠ b.f0 ∧ ltM a b)
theorem marks_prog (l : List SM) : (risesMark l && decide (l.map (·.f0)).Nodup) = true ↔ MarksP l := by
  rw [Bool.and_eq_true, decide_eq_true_eq, risesMark_pw, List.Nodup, List.pairwise_map]
  unfold MarksP
  constructor
  · rintro ⟨h1, h2⟩
    exact (h2.and h1)
  · intro h
    exact ⟨h.imp (fun h => h.2), h.imp (fun h => h.1)⟩

/-- When a value may be. -/
def RightP (t : Int) (s : ByteArray) (L : List ByteArray) (H : List SP) (Z : List SM) : Prop :=
  (t = 0 ∧ s = ⟨#[]⟩ ∧ L = [] ∧ H = [] ∧ Z = []) ∨ (t = 1 ∧ L = [] ∧ H = [] ∧ Z = []) ∨ (t = 2 ∧ s = ⟨#[]⟩ ∧ L ≠ [] ∧ H = [] ∧ Z = []) ∨
  (t = 3 ∧ s = ⟨#[]⟩ ∧ L = [] ∧ H ≠ [] ∧ Z = [] ∧ risesB (H.map (·.f0)) = true) ∨ (t = 4 ∧ s = ⟨#[]⟩ ∧ L ≠ [] ∧ H = [] ∧ Z = [] ∧ risesB L = true) ∨
  (t = 5 ∧ s = ⟨#[]⟩ ∧ L = [] ∧ H = [] ∧ Z ≠ [] ∧ MarksP Z)

theorem len_pos {α : Type} (l : List α) : ((l.length : Int) > 0) ↔ l ≠ [] := by cases l <;> simp
theorem len_zero {α : Type} (l : List α) : ((l.length : Int) = 0) ↔ l = [] := by
  cases l with
  | nil => simp
  | cons a r => simp only [List.length_cons, reduceCtorEq, iff_false]; omega

theorem right_f (k : Nat) (t : Int) (s : ByteArray) (L : List ByteArray) (H : List SP) (Z : List SM) (hL : L.length ≤ 1000) (hH : H.length ≤ 1000) (hZ : Z.length ≤ 1000) (hk : 1000 < k) :
    ∃ b, value_Right.f k t s L H Z = some b ∧ (b = true ↔ RightP t s L H Z) := by
  have S := fun (s' : ByteArray) (L' : List ByteArray) (H' : List SP) (Z' : List SM) => same_f k t s L H Z t s' L' H' Z' (by omega) (by omega) (by omega) (by omega) (by omega) (by omega)
  unfold value_Right.f
  by_cases h1 : t = 1
  · rw [if_pos h1]
    obtain ⟨b, e, i⟩ := S s [] [] []
    rw [e]
    refine ⟨b, rfl, i.trans ?_⟩
    unfold RightP
    simp [h1]
  rw [if_neg h1]
  by_cases h2 : t = 2
  · rw [if_pos h2]
    by_cases hp : (L.length : Int) > 0
    · rw [if_pos hp]
      obtain ⟨b, e, i⟩ := S ⟨#[]⟩ L [] []
      rw [e]
      refine ⟨b, rfl, i.trans ?_⟩
      rw [len_pos] at hp
      unfold RightP
      simp [h2, hp]
    · rw [if_neg hp]
      rw [len_pos, Classical.not_not] at hp
      refine ⟨false, rfl, ?_⟩
      unfold RightP
      simp [h2, hp]
  rw [if_neg h2]
  by_cases h4 : t = 4
  · rw [if_pos h4]
    by_cases hp : (L.length : Int) > 0
    · rw [if_pos hp]
      unfold value_rises_string.f
      simp only [Option.bind_some]
      rw [len_pos] at hp
      cases hr : risesB L with
      | true =>
        simp only [if_true]
        obtain ⟨b, e, i⟩ := S ⟨#[]⟩ L [] []
        rw [e]
        refine ⟨b, rfl, i.trans ?_⟩
        unfold RightP
        simp [h4, hp, hr]
      | false =>
        simp only [Bool.false_eq_true, if_false]
        refine ⟨false, rfl, ?_⟩
        unfold RightP
        simp [h4, hp, hr]
    · rw [if_neg hp]
      rw [len_pos, Classical.not_not] at hp
      refine ⟨false, rfl, ?_⟩
      unfold RightP
      simp [h4, hp]
  rw [if_neg h4]
  by_cases h3 : t = 3
  · rw [if_pos h3]
    by_cases hp : (H.length : Int) > 0
    · rw [if_pos hp]
      unfold api_Pair_65.f
      simp only [Option.bind_some]
      rw [len_pos] at hp
      rw [risesPair_map]
      cases hr : risesB (H.map (·.f0)) with
      | true =>
        simp only [if_true]
        obtain ⟨b, e, i⟩ := S ⟨#[]⟩ [] H []
        rw [e]
        refine ⟨b, rfl, i.trans ?_⟩
        unfold RightP
        simp [h3, hp, hr]
      | false =>
        simp only [Bool.false_eq_true, if_false]
        refine ⟨false, rfl, ?_⟩
        unfold RightP
        simp [h3, hp, hr]
    · rw [if_neg hp]
      rw [len_pos, Classical.not_not] at hp
      refine ⟨false, rfl, ?_⟩
      unfold RightP
      simp [h3, hp]
  rw [if_neg h3]
  by_cases h5 : t = 5
  · rw [if_pos h5]
    by_cases hp : (Z.length : Int) > 0
    · rw [if_pos hp]
      unfold api_Mark_67.f value_unlike.f
      simp only [Option.bind_some]
      rw [len_pos] at hp
      have hm := marks_prog Z
      cases hr : risesMark Z with
      | true =>
        simp only [if_true]
        rw [if_pos (by omega)]
        simp only [Option.bind_some]
        rw [hr, Bool.true_and] at hm
        cases hd : decide (Z.map (·.f0)).Nodup with
        | true =>
          simp only [if_true]
          obtain ⟨b, e, i⟩ := S ⟨#[]⟩ [] [] Z
          rw [e]
          refine ⟨b, rfl, i.trans ?_⟩
          unfold RightP
          simp [h5, hp, hm.1 hd]
        | false =>
          simp only [Bool.false_eq_true, if_false]
          refine ⟨false, rfl, ?_⟩
          have hn : ¬ MarksP Z := fun h => by rw [hm.2 h] at hd; cases hd
          unfold RightP
          simp [h5, hp, hn]
      | false =>
        simp only [Bool.false_eq_true, if_false]
        refine ⟨false, rfl, ?_⟩
        rw [hr, Bool.false_and] at hm
        have hn : ¬ MarksP Z := fun h => by have := hm.2 h; cases this
        unfold RightP
        simp [h5, hp, hn]
    · rw [if_neg hp]
      rw [len_pos, Classical.not_not] at hp
      refine ⟨false, rfl, ?_⟩
      unfold RightP
      simp [h5, hp]
  rw [if_neg h5]
  by_cases h0 : t = 0
  · rw [if_pos h0]
    obtain ⟨b, e, i⟩ := S ⟨#[]⟩ [] [] []
    rw [e]
    refine ⟨b, rfl, i.trans ?_⟩
    unfold RightP
    simp [h0]
  · rw [if_neg h0]
    refine ⟨false, rfl, ?_⟩
    unfold RightP
    simp [h0, h1, h2, h3, h4, h5]

/-! the document's -/
theorem ref_rises_loop (l : List ByteArray) (hl : l.length ≤ 1000) : ∀ (m k i : Nat), i + m = l.length → 1 ≤ i → m < k → tipstaffref09_rises.l0 k l (i : Int) = some (risesB (l.drop (i - 1))) := by
  intro m
  induction m with
  | zero =>
    intro k i hi h1 hk
    obtain ⟨k, rfl⟩ : ∃ q, k = q + 1 := ⟨k - 1, by omega⟩
    rw [tipstaffref09_rises.l0, if_neg (by omega), rises_end l (i - 1) (by omega)]
  | succ m ih =>
    intro k i hi h1 hk
    obtain ⟨k, rfl⟩ : ∃ q, k = q + 1 := ⟨k - 1, by omega⟩
    have hw : wrap64 ((i : Int) - 1) = ((i - 1 : Nat) : Int) := by unfold wrap64; omega
    have hst := rises_step l (i - 1) (by omega)
    rw [show ((i - 1 : Nat) : Int) + 1 = (i : Int) by omega, show i - 1 + 1 = i by omega] at hst
    rw [tipstaffref09_rises.l0, if_pos (by omega), hw, if_pos (by omega), if_pos (by omega), if_pos (by omega), hst]
    have hlt : Op.bytesLess (rdOf ByteArray.empty l ((i - 1 : Nat) : Int)).toList (rdOf ByteArray.empty l (i : Int)).toList = ltB (rdOf ByteArray.empty l ((i - 1 : Nat) : Int)) (rdOf ByteArray.empty l (i : Int)) := rfl
    rw [hlt]
    cases hc : ltB (rdOf ByteArray.empty l ((i - 1 : Nat) : Int)) (rdOf ByteArray.empty l (i : Int)) with
    | true =>
      rw [if_pos rfl, show wrap64 ((i : Int) + 1) = ((i + 1 : Nat) : Int) by unfold wrap64; omega, ih k (i + 1) (by omega) (by omega) (by omega)]
      rw [Bool.true_and, show i + 1 - 1 = i by omega]
    | false => rw [if_neg (by decide), Bool.false_and]
theorem ref_rises (k : Nat) (l : List ByteArray) (hl : l.length ≤ 1000) (hk : 1000 < k) : tipstaffref09_rises.f k l = some (risesB l) := by
  unfold tipstaffref09_rises.f
  by_cases h : l.length = 0
  · obtain rfl : l = [] := List.eq_nil_of_length_eq_zero h
    obtain ⟨k, rfl⟩ : ∃ q, k = q + 1 := ⟨k - 1, by omega⟩
    rw [tipstaffref09_rises.l0, if_neg (by simp)]
    rfl
  · have := ref_rises_loop l hl (l.length - 1) k 1 (by omega) (by omega) (by omega)
    simpa using this
theorem ref_pairs_loop (l : List SP) (hl : l.length ≤ 1000) : ∀ (m k i : Nat), i + m = l.length → m < k → tipstaffref09_pairs.l0 k l ((l.take i).map (·.f0)) (i : Int) = some (l.map (·.f0)) := by
  intro m
  induction m with
  | zero =>
    intro k i hi hk
    obtain ⟨k, rfl⟩ : ∃ q, k = q + 1 := ⟨k - 1, by omega⟩
    rw [tipstaffref09_pairs.l0, if_neg (by omega), List.take_of_length_le (by omega)]
  | succ m ih =>
    intro k i hi hk
    obtain ⟨k, rfl⟩ : ∃ q, k = q + 1 := ⟨k - 1, by omega⟩
    have hil : i < l.length := by omega
    rw [tipstaffref09_pairs.l0, if_pos (by omega), if_pos (by omega), if_pos (by simp; omega), rd_getPair l i hil, show wrap64 ((i : Int) + 1) = ((i + 1 : Nat) : Int) by unfold wrap64; omega]
    rw [← ih k (i + 1) (by omega) (by omega), List.take_succ_eq_append_getElem hil, List.map_append]
    rfl
theorem ref_pairs (k : Nat) (l : List SP) (hl : l.length ≤ 1000) (hk : 1000 < k) : tipstaffref09_pairs.f k l = some (l.map (·.f0)) := by
  unfold tipstaffref09_pairs.f
  have := ref_pairs_loop l hl l.length k 0 (by omega) (by omega)
  simpa using this

/-- One mark against one ahead of it. -/
def okM (a b : SM) : Prop := a.f0 ≠ b.f0 ∧ ltM a b
theorem okM_tests (a b : SM) : okM a b ↔ (¬ a.f0.toList = b.f0.toList ∧ ¬ a.f1 > b.f1 ∧ ¬ (a.f1 = b.f1 ∧ Op.bytesLess b.f0.toList a.f0.toList = true)) := by
  unfold okM ltM ltB
  rw [bytes_inj]
  constructor
  · rintro ⟨h1, h2⟩
    refine ⟨h1, ?_, ?_⟩
    · rcases h2 with h | ⟨h, _⟩ <;> omega
    · rintro ⟨h3, h4⟩
      rcases h2 with h | ⟨_, h⟩
      · omega
      · rw [bytesLess_asymm _ _ h4] at h; cases h
  · rintro ⟨h1, h2, h3⟩
    refine ⟨h1, ?_⟩
    by_cases he : a.f1 = b.f1
    · refine .inr ⟨he, ?_⟩
      cases hb : Op.bytesLess a.f0.toList b.f0.toList with
      | true => rfl
      | false =>
        cases hc : Op.bytesLess b.f0.toList a.f0.toList with
        | true => exact absurd ⟨he, hc⟩ h3
        | false => exact absurd ((bytes_inj _ _).1 (bytesLess_total _ _ hb hc)) h1
    · exact .inl (by omega)
/-- Rows of marks, the last one against all ahead of it. -/
theorem ref_marks_in (l : List SM) (hl : l.length ≤ 1000) (i : Nat) (hi : i < l.length) : ∀ (m k j : Nat), j + m = i → m < k →
    ((∀ (q : Nat) (hq : q < l.length), j ≤ q → q < i → okM l[q] l[i]) ∧ tipstaffref09_marks.l1 (k + m) l (i : Int) (j : Int) = tipstaffref09_marks.l0 (k - 1) l ((i + 1 : Nat) : Int)) ∨ ((∃ (q : Nat) (hq : q < l.length), j ≤ q ∧ q < i ∧ ¬ okM l[q] l[i]) ∧ tipstaffref09_marks.l1 (k + m) l (i : Int) (j : Int) = some false) := by
  intro m
  induction m with
  | zero =>
    intro k j hj hk
    obtain ⟨k, rfl⟩ : ∃ q, k = q + 1 := ⟨k - 1, by omega⟩
    refine .inl ⟨fun q hq h1 h2 => by omega, ?_⟩
    rw [Nat.add_zero, tipstaffref09_marks.l1, if_neg (by omega), show wrap64 ((i : Int) + 1) = ((i + 1 : Nat) : Int) by unfold wrap64; omega]
    rfl
  | succ m ih =>
    intro k j hj hk
    have hjl : j < l.length := by omega
    have ht := okM_tests l[j] l[i]
    have hE : tipstaffref09_marks.l1 (k + (m + 1)) l (i : Int) (j : Int) = if (l[j].f0).toList = (l[i].f0).toList then some false else (if l[j].f1 > l[i].f1 then some false else (if l[j].f1 = l[i].f1 then (if Op.bytesLess (l[i].f0).toList (l[j].f0).toList = true then some false else tipstaffref09_marks.l1 (k + m) l (i : Int) ((j + 1 : Nat) : Int)) else tipstaffref09_marks.l1 (k + m) l (i : Int) ((j + 1 : Nat) : Int))) := by
      rw [show k + (m + 1) = (k + m) + 1 by omega, tipstaffref09_marks.l1, if_pos (by omega), if_pos (by omega), if_pos (by omega), if_pos (by omega), if_pos (by omega), rd_getMark l j hjl, rd_getMark l i hi, show wrap64 ((j : Int) + 1) = ((j + 1 : Nat) : Int) by unfold wrap64; omega]
    rw [hE]
    by_cases hok : okM l[j] l[i]
    · obtain ⟨g1, g2, g3⟩ := ht.1 hok
      have hr : (if (l[j].f0).toList = (l[i].f0).toList then some false else (if l[j].f1 > l[i].f1 then some false else (if l[j].f1 = l[i].f1 then (if Op.bytesLess (l[i].f0).toList (l[j].f0).toList = true then some false else tipstaffref09_marks.l1 (k + m) l (i : Int) ((j + 1 : Nat) : Int)) else tipstaffref09_marks.l1 (k + m) l (i : Int) ((j + 1 : Nat) : Int)))) = tipstaffref09_marks.l1 (k + m) l (i : Int) ((j + 1 : Nat) : Int) := by
        rw [if_neg g1, if_neg g2]
        by_cases he : l[j].f1 = l[i].f1
        · rw [if_pos he, if_neg (fun h => g3 ⟨he, h⟩)]
        · rw [if_neg he]
      rw [hr]
      rcases ih k (j + 1) (by omega) (by omega) with ⟨h1, h2⟩ | ⟨⟨q, hq, h1, h2, h3⟩, h4⟩
      · refine .inl ⟨fun q hq a1 a2 => ?_, h2⟩
        rcases Nat.eq_or_lt_of_le a1 with rfl | a1
        · exact hok
        · exact h1 q hq a1 a2
      · exact .inr ⟨⟨q, hq, by omega, h2, h3⟩, h4⟩
    · refine .inr ⟨⟨j, hjl, Nat.le_refl _, by omega, hok⟩, ?_⟩
      by_cases g1 : (l[j].f0).toList = (l[i].f0).toList
      · rw [if_pos g1]
      · by_cases g2 : l[j].f1 > l[i].f1
        · rw [if_neg g1, if_pos g2]
        · by_cases g3 : l[j].f1 = l[i].f1 ∧ Op.bytesLess (l[i].f0).toList (l[j].f0).toList = true
          · rw [if_neg g1, if_neg g2, if_pos g3.1, if_pos g3.2]
          · exact absurd (ht.2 ⟨g1, g2, g3⟩) hok
theorem ref_marks_loop (l : List SM) (hl : l.length ≤ 1000) : ∀ (m k i : Nat), i + m = l.length → 2000 * (m + 1) ≤ k →
    ∃ b, tipstaffref09_marks.l0 k l (i : Int) = some b ∧ (b = true ↔ ∀ (x y : Nat) (hx : x < l.length) (hy : y < l.length), i ≤ y → x < y → okM l[x] l[y]) := by
  intro m
  induction m with
  | zero =>
    intro k i hi hk
    obtain ⟨k, rfl⟩ : ∃ q, k = q + 1 := ⟨k - 1, by omega⟩
    refine ⟨true, by rw [tipstaffref09_marks.l0, if_neg (by omega)], ?_⟩
    simp only [true_iff]
    intro x y hx hy h1 h2
    omega
  | succ m ih =>
    intro k i hi hk
    have hil : i < l.length := by omega
    obtain ⟨k', hk'⟩ : ∃ q, k = (q + i) + 1 := ⟨k - i - 1, by omega⟩
    subst hk'
    rw [tipstaffref09_marks.l0, if_pos (by omega)]
    rcases ref_marks_in l hl i hil i k' 0 (by omega) (by omega) with ⟨h1, h2⟩ | ⟨⟨q, hq, h1, h2, h3⟩, h4⟩
    · have h2' : tipstaffref09_marks.l1 (k' + i) l (i : Int) 0 = tipstaffref09_marks.l0 (k' - 1) l ((i + 1 : Nat) : Int) := h2
      rw [h2']
      obtain ⟨b, e, hb⟩ := ih (k' - 1) (i + 1) (by omega) (by omega)
      refine ⟨b, e, hb.trans ?_⟩
      constructor
      · intro h x y hx hy a1 a2
        rcases Nat.eq_or_lt_of_le a1 with rfl | a1
        · exact h1 x hx (Nat.zero_le _) a2
        · exact h x y hx hy a1 a2
      · intro h x y hx hy a1 a2
        exact h x y hx hy (by omega) a2
    · have h4' : tipstaffref09_marks.l1 (k' + i) l (i : Int) 0 = some false := h4
      rw [h4']
      refine ⟨false, rfl, ?_⟩
      constructor
      · intro h; cases h
      · intro h; exact absurd (h q i hq hil (Nat.le_refl _) h2) h3
theorem ref_marks (k : Nat) (l : List SM) (hl : l.length ≤ 1000) (hk : 4000000 < k) : ∃ b, tipstaffref09_marks.f k l = some b ∧ (b = true ↔ MarksP l) := by
  obtain ⟨b, e, h⟩ := ref_marks_loop l hl l.length k 0 (by omega) (by omega)
  refine ⟨b, e, h.trans ?_⟩
  unfold MarksP
  rw [List.pairwise_iff_getElem]
  constructor
  · intro h x y hx hy hxy
    exact h x y hx hy (Nat.zero_le _) hxy
  · intro h x y hx hy _ hxy
    exact h x y hx hy hxy

theorem ref_right (k : Nat) (t : Int) (s : ByteArray) (L : List ByteArray) (H : List SP) (Z : List SM) (hL : L.length ≤ 1000) (hH : H.length ≤ 1000) (hZ : Z.length ≤ 1000) (hk : 4000000 < k) :
    ∃ b, tipstaffref09_Right.f k t s L H Z = some b ∧ (b = true ↔ RightP t s L H Z) := by
  obtain ⟨bm, em, im⟩ := ref_marks k Z hZ hk
  unfold tipstaffref09_Right.f RightP
  rw [ref_pairs k H hH (by omega), ref_rises k L hL (by omega), em]
  simp only [Option.bind_some, nilB, len_zero]
  rw [ref_rises k (H.map (·.f0)) (by simpa using hH) (by omega)]
  simp only [Option.bind_some]
  have hz : ((Z.length : Int) == 0) = decide (Z = []) := by
    rw [Bool.eq_iff_iff, beq_iff_eq, decide_eq_true_eq, len_zero]
  rw [hz]
  by_cases h0 : t = 0
  · subst h0
    by_cases a : s = ⟨#[]⟩ <;> by_cases b : L = [] <;> by_cases c : H = [] <;> by_cases d : Z = [] <;> simp [a, b, c, d]
  by_cases h1 : t = 1
  · subst h1
    by_cases b : L = [] <;> by_cases c : H = [] <;> by_cases d : Z = [] <;> simp [b, c, d]
  by_cases h2 : t = 2
  · subst h2
    by_cases a : s = ⟨#[]⟩ <;> by_cases b : L = [] <;> by_cases c : H = [] <;> by_cases d : Z = [] <;> simp [a, b, c, d]
  by_cases h3 : t = 3
  · subst h3
    by_cases a : s = ⟨#[]⟩ <;> by_cases b : L = [] <;> by_cases c : H = [] <;> by_cases d : Z = [] <;> simp [a, b, c, d]
  by_cases h4 : t = 4
  · subst h4
    by_cases a : s = ⟨#[]⟩ <;> by_cases b : L = [] <;> by_cases c : H = [] <;> by_cases d : Z = [] <;> simp [a, b, c, d]
  by_cases h5 : t = 5
  · subst h5
    by_cases a : s = ⟨#[]⟩ <;> by_cases b : L = [] <;> by_cases c : H = [] <;> by_cases d : Z = [] <;> simp [a, b, c, d, im]
  simp [h0, h1, h2, h3, h4, h5]

/-! types and sizes -/
def typeOf (t : Int) : ByteArray := if t = 1 then ⟨#[115, 116, 114, 105, 110, 103]⟩ else if t = 2 then ⟨#[108, 105, 115, 116]⟩ else if t = 3 then ⟨#[104, 97, 115, 104]⟩ else if t = 4 then ⟨#[115, 101, 116]⟩ else if t = 5 then ⟨#[122, 115, 101, 116]⟩ else ⟨#[110, 111, 110, 101]⟩
theorem type_f (t : Int) (s : ByteArray) (L : List ByteArray) (H : List SP) (Z : List SM) (h : 0 ≤ t ∧ t ≤ 255) : value_Type.f t s L H Z = some (typeOf t) := by
  unfold value_Type.f typeOf
  rw [if_neg (fun n => n h)]
theorem ref_type (t : Int) (s : ByteArray) (L : List ByteArray) (H : List SP) (Z : List SM) : tipstaffref09_Type.f t s L H Z = some (typeOf t) := by
  unfold tipstaffref09_Type.f typeOf
  repeat' split
  all_goals rfl
def sizeOf' (t : Int) (L : List ByteArray) (H : List SP) (Z : List SM) : Int := if t = 1 then 1 else if t = 2 ∨ t = 4 then L.length else if t = 3 then H.length else if t = 5 then Z.length else 0
theorem size_f (k : Nat) (t : Int) (s : ByteArray) (L : List ByteArray) (H : List SP) (Z : List SM) : value_Size.f (k + 1) t s L H Z = some (sizeOf' t L H Z) := by
  unfold value_Size.f sizeOf'
  simp only [value_Size.j0]
  by_cases h1 : t = 1
  · simp [h1]
  by_cases h2 : t = 2
  · simp [h2]
  by_cases h4 : t = 4
  · simp [h4]
  by_cases h3 : t = 3
  · simp [h3]
  by_cases h5 : t = 5 <;> simp [h1, h2, h3, h4, h5]
theorem ref_size (k : Nat) (t : Int) (s : ByteArray) (L : List ByteArray) (H : List SP) (Z : List SM) : tipstaffref09_Size.f (k + 1) t s L H Z = some (sizeOf' t L H Z) := by
  unfold tipstaffref09_Size.f sizeOf'
  simp only [tipstaffref09_Size.j0]
  by_cases h1 : t = 1
  · simp [h1]
  by_cases h2 : t = 2
  · simp [h2]
  by_cases h4 : t = 4
  · simp [h4]
  by_cases h3 : t = 3
  · simp [h3]
  by_cases h5 : t = 5 <;> simp [h1, h2, h3, h4, h5]

/-! the document's Same -/
theorem texts_loop (x y : List ByteArray) (h : x.length = y.length) (hl : x.length ≤ 1000) : ∀ (m k i : Nat), i + m = x.length → m < k → ∃ b, tipstaffref01_Texts.l0 k x y (i : Int) = some b ∧ (b = true ↔ x.drop i = y.drop i) := by
  intro m
  induction m with
  | zero =>
    intro k i hi hk
    obtain ⟨k, rfl⟩ : ∃ q, k = q + 1 := ⟨k - 1, by omega⟩
    refine ⟨true, by rw [tipstaffref01_Texts.l0, if_neg (by omega)], ?_⟩
    simp only [true_iff]
    rw [List.drop_eq_nil_of_le (by omega), List.drop_eq_nil_of_le (by omega)]
  | succ m ih =>
    intro k i hi hk
    obtain ⟨k, rfl⟩ : ∃ q, k = q + 1 := ⟨k - 1, by omega⟩
    have hix : i < x.length := by omega
    have hiy : i < y.length := by omega
    rw [tipstaffref01_Texts.l0, if_pos (by omega), if_pos (by omega), if_pos (by omega), rdOf_get x i hix, rdOf_get y i hiy]
    rw [List.drop_eq_getElem_cons hix, List.drop_eq_getElem_cons hiy]
    by_cases he : x[i] = y[i]
    · rw [if_pos (by rw [he]), show wrap64 ((i : Int) + 1) = ((i + 1 : Nat) : Int) by unfold wrap64; omega]
      obtain ⟨b, h1, h2⟩ := ih k (i + 1) (by omega) (by omega)
      exact ⟨b, h1, by rw [h2, he]; exact ⟨fun h => by rw [h], fun h => (List.cons.inj h).2⟩⟩
    · rw [if_neg (fun h => he ((bytes_inj _ _).1 h))]
      exact ⟨false, rfl, ⟨(fun h => nomatch h), fun h => absurd (List.cons.inj h).1 he⟩⟩
theorem texts_f (k : Nat) (x y : List ByteArray) (hl : x.length ≤ 1000) (hk : 1000 < k) : ∃ b, tipstaffref01_Texts.f k x y = some b ∧ (b = true ↔ x = y) := by
  unfold tipstaffref01_Texts.f
  by_cases h : (x.length : Int) = (y.length : Int)
  · rw [if_pos h]
    have := texts_loop x y (by omega) hl x.length k 0 (by omega) (by omega)
    simpa using this
  · rw [if_neg h]
    exact ⟨false, rfl, by simp; rintro rfl; exact h rfl⟩
section
variable (a0 : Int) (a1 : ByteArray) (a2 : List ByteArray) (a3 : List SP) (a4 : List SM) (b0 : Int) (b1 : ByteArray) (b2 : List ByteArray) (b3 : List SP) (b4 : List SM)
theorem ref_same_l1 (h : a4.length = b4.length) (hl : a4.length ≤ 1000) : ∀ (m k i : Nat), i + m = a4.length → m < k → ∃ b, tipstaffref09_Same.l1 k (i : Int) a0 a1 a2 a3 a4 b0 b1 b2 b3 b4 = some b ∧ (b = true ↔ a4.drop i = b4.drop i) := by
  intro m
  induction m with
  | zero =>
    intro k i hi hk
    obtain ⟨k, rfl⟩ : ∃ q, k = q + 1 := ⟨k - 1, by omega⟩
    refine ⟨true, by rw [tipstaffref09_Same.l1, if_neg (by omega)], ?_⟩
    simp only [true_iff]
    rw [List.drop_eq_nil_of_le (by omega), List.drop_eq_nil_of_le (by omega)]
  | succ m ih =>
    intro k i hi hk
    obtain ⟨k, rfl⟩ : ∃ q, k = q + 1 := ⟨k - 1, by omega⟩
    have hix : i < a4.length := by omega
    have hiy : i < b4.length := by omega
    rw [tipstaffref09_Same.l1, if_pos (by omega), if_pos (by omega), if_pos (by omega), rd_getMark a4 i hix, rd_getMark b4 i hiy]
    rw [List.drop_eq_getElem_cons hix, List.drop_eq_getElem_cons hiy]
    by_cases he : a4[i] = b4[i]
    · rw [if_neg (by rw [he]; simp), show wrap64 ((i : Int) + 1) = ((i + 1 : Nat) : Int) by unfold wrap64; omega]
      obtain ⟨b, h1, h2⟩ := ih k (i + 1) (by omega) (by omega)
      exact ⟨b, h1, by rw [h2, he]; exact ⟨fun h => by rw [h], fun h => (List.cons.inj h).2⟩⟩
    · rw [if_pos ?_]
      · exact ⟨false, rfl, ⟨(fun h => nomatch h), fun h => absurd (List.cons.inj h).1 he⟩⟩
      · generalize a4[i] = u at *
        generalize b4[i] = v at *
        cases u; cases v
        simp only [Bool.or_eq_true, Bool.not_eq_true', beq_eq_false_iff_ne, ne_eq, bytes_inj]
        simp only [S62.mk.injEq, Classical.not_and_iff_not_or_not] at he
        exact he
theorem ref_same_l0 (h : a3.length = b3.length) (hl : a3.length ≤ 1000) (h4 : a4.length = b4.length) (hl4 : a4.length ≤ 1000) : ∀ (m k i : Nat), i + m = a3.length → 2000 + m < k → ∃ b, tipstaffref09_Same.l0 k (i : Int) a0 a1 a2 a3 a4 b0 b1 b2 b3 b4 = some b ∧ (b = true ↔ a3.drop i = b3.drop i ∧ a4 = b4) := by
  intro m
  induction m with
  | zero =>
    intro k i hi hk
    obtain ⟨k, rfl⟩ : ∃ q, k = q + 1 := ⟨k - 1, by omega⟩
    rw [tipstaffref09_Same.l0, if_neg (by omega), List.drop_eq_nil_of_le (by omega), List.drop_eq_nil_of_le (by omega)]
    obtain ⟨b, h1, h2⟩ := ref_same_l1 a0 a1 a2 a3 a4 b0 b1 b2 b3 b4 h4 hl4 a4.length k 0 (by omega) (by omega)
    refine ⟨b, h1, ?_⟩
    simpa using h2
  | succ m ih =>
    intro k i hi hk
    obtain ⟨k, rfl⟩ : ∃ q, k = q + 1 := ⟨k - 1, by omega⟩
    have hix : i < a3.length := by omega
    have hiy : i < b3.length := by omega
    rw [tipstaffref09_Same.l0, if_pos (by omega), if_pos (by omega), if_pos (by omega), rd_getPair a3 i hix, rd_getPair b3 i hiy]
    rw [List.drop_eq_getElem_cons hix, List.drop_eq_getElem_cons hiy]
    by_cases he : a3[i] = b3[i]
    · rw [if_neg (by rw [he]; simp), show wrap64 ((i : Int) + 1) = ((i + 1 : Nat) : Int) by unfold wrap64; omega]
      obtain ⟨b, h1, h2⟩ := ih k (i + 1) (by omega) (by omega)
      exact ⟨b, h1, by rw [h2, he]; exact ⟨fun h => ⟨by rw [h.1], h.2⟩, fun h => ⟨(List.cons.inj h.1).2, h.2⟩⟩⟩
    · rw [if_pos ?_]
      · exact ⟨false, rfl, ⟨(fun h => nomatch h), fun h => absurd (List.cons.inj h.1).1 he⟩⟩
      · generalize a3[i] = u at *
        generalize b3[i] = v at *
        cases u; cases v
        simp only [Bool.or_eq_true, Bool.not_eq_true', beq_eq_false_iff_ne, ne_eq, bytes_inj]
        simp only [S60.mk.injEq, Classical.not_and_iff_not_or_not] at he
        exact he
theorem ref_same (k : Nat) (h2 : a2.length ≤ 1000) (h3 : a3.length ≤ 1000) (h4 : a4.length ≤ 1000) (hk : 5000 < k) :
    ∃ b, tipstaffref09_Same.f k a0 a1 a2 a3 a4 b0 b1 b2 b3 b4 = some b ∧ (b = true ↔ a0 = b0 ∧ a1 = b1 ∧ a2 = b2 ∧ a3 = b3 ∧ a4 = b4) := by
  obtain ⟨bt, et, it⟩ := texts_f k a2 b2 h2 (by omega)
  obtain ⟨k, rfl⟩ : ∃ q, k = q + 1 := ⟨k - 1, by omega⟩
  have J : tipstaffref09_Same.j0 (k + 1) true a0 a1 a2 a3 a4 b0 b1 b2 b3 b4 = some false := by rw [tipstaffref09_Same.j0, if_pos rfl]
  unfold tipstaffref09_Same.f
  rw [et]
  simp only [Option.bind_some, bytes_inj, J]
  by_cases c0 : a0 = b0
  case neg => rw [if_neg c0]; exact ⟨false, rfl, by simp [c0]⟩
  rw [if_pos c0]
  by_cases c1 : a1 = b1
  case neg => rw [if_neg c1]; exact ⟨false, rfl, by simp [c1]⟩
  rw [if_pos c1]
  by_cases c2 : bt = true
  case neg => rw [if_neg c2]; exact ⟨false, rfl, by simp; intro _ _ h; exact absurd (it.2 h) c2⟩
  rw [if_pos c2]
  have e2 := it.1 c2
  by_cases c3 : (a3.length : Int) = (b3.length : Int)
  case neg => rw [if_neg c3]; exact ⟨false, rfl, by simp; rintro _ _ _ rfl; exact absurd rfl c3⟩
  rw [if_pos c3]
  by_cases c4 : (a4.length : Int) = (b4.length : Int)
  case neg =>
    rw [show ((a4.length : Int) != (b4.length : Int)) = true from bne_iff_ne.2 c4, J]
    exact ⟨false, rfl, by simp; rintro _ _ _ _ rfl; exact absurd rfl c4⟩
  rw [show ((a4.length : Int) != (b4.length : Int)) = false from bne_eq_false_iff_eq.2 c4, tipstaffref09_Same.j0, if_neg (by decide)]
  obtain ⟨b, e, i⟩ := ref_same_l0 a0 a1 a2 a3 a4 b0 b1 b2 b3 b4 (by omega) h3 (by omega) h4 a3.length k 0 (by omega) (by omega)
  refine ⟨b, e, i.trans ?_⟩
  simp [c0, c1, e2]
end
end Go.Proofs.Ytbbgiedfkklojaa.X
