/- Plain: what Right, Type and Size give (Type, Size: in the document's answer, too). -/
import Derived.Test.YtbbgiedfkklojaaPVal1
import Derived.Test.YtbbgiedfkklojaaEType
import Derived.Test.YtbbgiedfkklojaaEUnlike
import Derived.Test.YtbbgiedfkklojaaXx15h
import Derived.Test.YtbbgiedfkklojaaXx16
import Derived.Test.YtbbgiedfkklojaaXx16
set_option linter.unusedVariables false
set_option linter.unusedSimpArgs false
namespace Go.Proofs.Ytbbgiedfkklojaa.X
open Go.RowKit Go.Lib Go.Proofs.YtbbgiedfkklojaaW.PrintWords Go.Proofs.YtbbgiedfkklojaaW.PrintMore

abbrev SP := S60
abbrev SM := S62

theorem nilB (s : ByteArray) : s.toList = ([] : List UInt8) ↔ s = (⟨#[]⟩ : ByteArray) := by
  rw [← bytes_inj]
  constructor
  · intro h; rw [h, Go.ByteArray.toList_eq]
  · intro h; rw [h, Go.ByteArray.toList_eq]

theorem cmpB_lt (a b : ByteArray) : cmpB a b < 0 ↔ ltB a b = true := by
  rcases cmpB_iff a b with ⟨h1, h2⟩ | ⟨h1, h2⟩
  · rw [h2]; constructor
    · intro h; omega
    · intro h; cases h
  · exact ⟨fun _ => h2, fun _ => h1⟩
theorem risesPair_map : ∀ l : List SP, risesPair l = risesB (l.map (·.f0))
  | [] => rfl
  | [_] => rfl
  | a :: b :: r => by
    have ih := risesPair_map (b :: r)
    have e1 : risesPair (a :: b :: r) = (decide (ordPair a b < 0) && risesPair (b :: r)) := rfl
    have e2 : risesB ((a :: b :: r).map (·.f0)) = (ltB a.f0 b.f0 && risesB ((b :: r).map (·.f0))) := rfl
    rw [e1, e2, ih]
    congr 1
    unfold ordPair
    by_cases h : ltB a.f0 b.f0 = true
    · rw [h]; exact decide_eq_true ((cmpB_lt _ _).2 h)
    · rw [Bool.not_eq_true] at h
      rw [h]
      exact decide_eq_false (fun h2 => by rw [(cmpB_lt _ _).1 h2] at h; cases h)

/-- Marks in order: each pair. -/
def ltM (a b : SM) : Prop := a.f1 < b.f1 ∨ (a.f1 = b.f1 ∧ ltB a.f0 b.f0 = true)
theorem ordMark_lt (a b : SM) : ordMark a b < 0 ↔ ltM a b := by
  unfold ordMark ltM cmpI
  by_cases h1 : a.f1 < b.f1
  · simp [h1]
  · by_cases h2 : b.f1 < a.f1
    · simp only [h1, h2, if_false, if_true]
      constructor
      · intro h; exfalso; simp at h
      · rintro (h | ⟨h, _⟩)
        · exact absurd h (by simp)
        · omega
    · simp only [h1, h2, if_false, if_true]
      rw [cmpB_lt]
      constructor
      · intro h; exact .inr ⟨by omega, h⟩
      · rintro (h | ⟨_, h⟩)
        · exact absurd h (by simp)
        · exact h
theorem ltB_trans (a b c : ByteArray) (h1 : ltB a b = true) (h2 : ltB b c = true) : ltB a c = true := by
  unfold ltB at *
  rw [Go.Proofs.bytesLess_eq, decide_eq_true_eq] at *
  exact List.lt_trans h1 h2
theorem ltM_trans (a b c : SM) (h1 : ltM a b) (h2 : ltM b c) : ltM a c := by
  unfold ltM at *
  rcases h1 with h1 | ⟨h1, g1⟩ <;> rcases h2 with h2 | ⟨h2, g2⟩
  · exact .inl (by omega)
  · exact .inl (by omega)
  · exact .inl (by omega)
  · exact .inr ⟨by omega, ltB_trans _ _ _ g1 g2⟩
theorem risesMark_pw : ∀ l : List SM, risesMark l = true ↔ l.Pairwise ltM
  | [] => by simp [risesMark, risesG]
  | [a] => by simp [risesMark, risesG]
  | a :: b :: r => by
    have ih := risesMark_pw (b :: r)
    have e1 : risesMark (a :: b :: r) = (decide (ordMark a b < 0) && risesMark (b :: r)) := rfl
    rw [e1, Bool.and_eq_true, ih, decide_eq_true_eq, ordMark_lt, List.pairwise_cons (a := a) (l := b :: r)]
    constructor
    · rintro ⟨h1, h2⟩
      refine ⟨fun x hx => ?_, h2⟩
      rcases List.mem_cons.1 hx with rfl | hx
      · exact h1
      · exact ltM_trans _ _ _ h1 ((List.pairwise_cons.1 h2).1 x hx)
    · rintro ⟨h1, h2⟩
      exact ⟨h1 b List.mem_cons_self, h2⟩
def MarksP (l : List SM) : Prop := l.Pairwise (fun a b => a.f0 ≠ b.f0 ∧ ltM a b)
theorem marks_prog (l : List SM) : (risesMark l && decide (l.map (·.f0)).Nodup) = true ↔ MarksP l := by
  rw [Bool.and_eq_true, decide_eq_true_eq, risesMark_pw, List.Nodup, List.pairwise_map]
  unfold MarksP
  constructor
  · rintro ⟨h1, h2⟩
    exact (h2.and h1)
  · intro h
    exact ⟨h.imp (fun h => h.2), h.imp (fun h => h.1)⟩

/-- When a value may be. -/
def RightP (t : Int) (s : ByteArray) (L : List ByteArray) (H : List SP) (Z : List SM) : Prop :=
  (t = 0 ∧ s = ⟨#[]⟩ ∧ L = [] ∧ H = [] ∧ Z = []) ∨ (t = 1 ∧ L = [] ∧ H = [] ∧ Z = []) ∨ (t = 2 ∧ s = ⟨#[]⟩ ∧ L ≠ [] ∧ H = [] ∧ Z = []) ∨
  (t = 3 ∧ s = ⟨#[]⟩ ∧ L = [] ∧ H ≠ [] ∧ Z = [] ∧ risesB (H.map (·.f0)) = true) ∨ (t = 4 ∧ s = ⟨#[]⟩ ∧ L ≠ [] ∧ H = [] ∧ Z = [] ∧ risesB L = true) ∨
  (t = 5 ∧ s = ⟨#[]⟩ ∧ L = [] ∧ H = [] ∧ Z ≠ [] ∧ MarksP Z)

theorem len_pos {α : Type} (l : List α) : ((l.length : Int) > 0) ↔ l ≠ [] := by cases l <;> simp
theorem len_zero {α : Type} (l : List α) : ((l.length : Int) = 0) ↔ l = [] := by
  cases l with
  | nil => simp
  | cons a r => simp only [List.length_cons, reduceCtorEq, iff_false]; omega

theorem right_f (k : Nat) (t : Int) (s : ByteArray) (L : List ByteArray) (H : List SP) (Z : List SM) (hL : L.length ≤ 1000) (hH : H.length ≤ 1000) (hZ : Z.length ≤ 1000) (hk : 1000 < k) :
    ∃ b, value_Right.f k t s L H Z = some b ∧ (b = true ↔ RightP t s L H Z) := by
  have S := fun (s' : ByteArray) (L' : List ByteArray) (H' : List SP) (Z' : List SM) => same_f k t s L H Z t s' L' H' Z' (by omega) (by omega) (by omega) (by omega) (by omega) (by omega)
  unfold value_Right.f
  by_cases h1 : t = 1
  · rw [if_pos h1]
    obtain ⟨b, e, i⟩ := S s [] [] []
    rw [e]
    refine ⟨b, rfl, i.trans ?_⟩
    unfold RightP
    simp [h1]
  rw [if_neg h1]
  by_cases h2 : t = 2
  · rw [if_pos h2]
    by_cases hp : (L.length : Int) > 0
    · rw [if_pos hp]
      obtain ⟨b, e, i⟩ := S ⟨#[]⟩ L [] []
      rw [e]
      refine ⟨b, rfl, i.trans ?_⟩
      rw [len_pos] at hp
      unfold RightP
      simp [h2, hp]
    · rw [if_neg hp]
      rw [len_pos, Classical.not_not] at hp
      refine ⟨false, rfl, ?_⟩
      unfold RightP
      simp [h2, hp]
  rw [if_neg h2]
  by_cases h4 : t = 4
  · rw [if_pos h4]
    by_cases hp : (L.length : Int) > 0
    · rw [if_pos hp]
      unfold value_rises_string.f
      simp only [Option.bind_some]
      rw [len_pos] at hp
      cases hr : risesB L with
      | true =>
        simp only [if_true]
        obtain ⟨b, e, i⟩ := S ⟨#[]⟩ L [] []
        rw [e]
        refine ⟨b, rfl, i.trans ?_⟩
        unfold RightP
        simp [h4, hp, hr]
      | false =>
        simp only [Bool.false_eq_true, if_false]
        refine ⟨false, rfl, ?_⟩
        unfold RightP
        simp [h4, hp, hr]
    · rw [if_neg hp]
      rw [len_pos, Classical.not_not] at hp
      refine ⟨false, rfl, ?_⟩
      unfold RightP
      simp [h4, hp]
  rw [if_neg h4]
  by_cases h3 : t = 3
  · rw [if_pos h3]
    by_cases hp : (H.length : Int) > 0
    · rw [if_pos hp]
      unfold api_Pair_65.f
      simp only [Option.bind_some]
      rw [len_pos] at hp
      rw [risesPair_map]
      cases hr : risesB (H.map (·.f0)) with
      | true =>
        simp only [if_true]
        obtain ⟨b, e, i⟩ := S ⟨#[]⟩ [] H []
        rw [e]
        refine ⟨b, rfl, i.trans ?_⟩
        unfold RightP
        simp [h3, hp, hr]
      | false =>
        simp only [Bool.false_eq_true, if_false]
        refine ⟨false, rfl, ?_⟩
        unfold RightP
        simp [h3, hp, hr]
    · rw [if_neg hp]
      rw [len_pos, Classical.not_not] at hp
      refine ⟨false, rfl, ?_⟩
      unfold RightP
      simp [h3, hp]
  rw [if_neg h3]
  by_cases h5 : t = 5
  · rw [if_pos h5]
    by_cases hp : (Z.length : Int) > 0
    · rw [if_pos hp]
      unfold api_Mark_67.f value_unlike.f
      simp only [Option.bind_some]
      rw [len_pos] at hp
      have hm := marks_prog Z
      cases hr : risesMark Z with
      | true =>
        simp only [if_true]
        rw [if_pos (by omega)]
        simp only [Option.bind_some]
        rw [hr, Bool.true_and] at hm
        cases hd : decide (Z.map (·.f0)).Nodup with
        | true =>
          simp only [if_true]
          obtain ⟨b, e, i⟩ := S ⟨#[]⟩ [] [] Z
          rw [e]
          refine ⟨b, rfl, i.trans ?_⟩
          unfold RightP
          simp [h5, hp, hm.1 hd]
        | false =>
          simp only [Bool.false_eq_true, if_false]
          refine ⟨false, rfl, ?_⟩
          have hn : ¬ MarksP Z := fun h => by rw [hm.2 h] at hd; cases hd
          unfold RightP
          simp [h5, hp, hn]
      | false =>
        simp only [Bool.false_eq_true, if_false]
        refine ⟨false, rfl, ?_⟩
        rw [hr, Bool.false_and] at hm
        have hn : ¬ MarksP Z := fun h => by have := hm.2 h; cases this
        unfold RightP
        simp [h5, hp, hn]
    · rw [if_neg hp]
      rw [len_pos, Classical.not_not] at hp
      refine ⟨false, rfl, ?_⟩
      unfold RightP
      simp [h5, hp]
  rw [if_neg h5]
  by_cases h0 : t = 0
  · rw [if_pos h0]
    obtain ⟨b, e, i⟩ := S ⟨#[]⟩ [] [] []
    rw [e]
    refine ⟨b, rfl, i.trans ?_⟩
    unfold RightP
    simp [h0]
  · rw [if_neg h0]
    refine ⟨false, rfl, ?_⟩
    unfold RightP
    simp [h0, h1, h2, h3, h4, h5]

/-- One mark against one ahead of it. -/
def okM (a b : SM) : Prop := a.f0 ≠ b.f0 ∧ ltM a b
theorem okM_tests (a b : SM) : okM a b ↔ (¬ a.f0.toList = b.f0.toList ∧ ¬ a.f1 > b.f1 ∧ ¬ (a.f1 = b.f1 ∧ Op.bytesLess b.f0.toList a.f0.toList = true)) := by
  unfold okM ltM ltB
  rw [bytes_inj]
  constructor
  · rintro ⟨h1, h2⟩
    refine ⟨h1, ?_, ?_⟩
    · rcases h2 with h | ⟨h, _⟩ <;> omega
    · rintro ⟨h3, h4⟩
      rcases h2 with h | ⟨_, h⟩
      · omega
      · rw [bytesLess_asymm _ _ h4] at h; cases h
  · rintro ⟨h1, h2, h3⟩
    refine ⟨h1, ?_⟩
    by_cases he : a.f1 = b.f1
    · refine .inr ⟨he, ?_⟩
      cases hb : Op.bytesLess a.f0.toList b.f0.toList with
      | true => rfl
      | false =>
        cases hc : Op.bytesLess b.f0.toList a.f0.toList with
        | true => exact absurd ⟨he, hc⟩ h3
        | false => exact absurd ((bytes_inj _ _).1 (bytesLess_total _ _ hb hc)) h1
    · exact .inl (by omega)
/-! types and sizes -/
def typeOf (t : Int) : ByteArray := if t = 1 then ⟨#[115, 116, 114, 105, 110, 103]⟩ else if t = 2 then ⟨#[108, 105, 115, 116]⟩ else if t = 3 then ⟨#[104, 97, 115, 104]⟩ else if t = 4 then ⟨#[115, 101, 116]⟩ else if t = 5 then ⟨#[122, 115, 101, 116]⟩ else ⟨#[110, 111, 110, 101]⟩
theorem type_f (t : Int) (s : ByteArray) (L : List ByteArray) (H : List SP) (Z : List SM) (h : 0 ≤ t ∧ t ≤ 255) : value_Type.f t s L H Z = some (typeOf t) := by
  unfold value_Type.f typeOf
  rw [if_neg (fun n => n h)]
def sizeOf' (t : Int) (L : List ByteArray) (H : List SP) (Z : List SM) : Int := if t = 1 then 1 else if t = 2 ∨ t = 4 then L.length else if t = 3 then H.length else if t = 5 then Z.length else 0
theorem size_f (k : Nat) (t : Int) (s : ByteArray) (L : List ByteArray) (H : List SP) (Z : List SM) : value_Size.f (k + 1) t s L H Z = some (sizeOf' t L H Z) := by
  unfold value_Size.f sizeOf'
  simp only [value_Size.j0]
  by_cases h1 : t = 1
  · simp [h1]
  by_cases h2 : t = 2
  · simp [h2]
  by_cases h4 : t = 4
  · simp [h4]
  by_cases h3 : t = 3
  · simp [h3]
  by_cases h5 : t = 5 <;> simp [h1, h2, h3, h4, h5]
theorem ref_size (k : Nat) (t : Int) (s : ByteArray) (L : List ByteArray) (H : List SP) (Z : List SM) : tipstaffref09_Size.f (k + 1) t s L H Z = some (sizeOf' t L H Z) := by
  unfold tipstaffref09_Size.f sizeOf'
  simp only [tipstaffref09_Size.j0]
  by_cases h1 : t = 1
  · simp [h1]
  by_cases h2 : t = 2
  · simp [h2]
  by_cases h4 : t = 4
  · simp [h4]
  by_cases h3 : t = 3
  · simp [h3]
  by_cases h5 : t = 5 <;> simp [h1, h2, h3, h4, h5]

end Go.Proofs.Ytbbgiedfkklojaa.X
