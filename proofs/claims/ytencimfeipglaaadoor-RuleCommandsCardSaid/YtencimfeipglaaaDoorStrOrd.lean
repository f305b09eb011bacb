/- The order of texts, as the printed texts tell it. -/
import Derived.Laws.Strings
namespace Go.Proofs.YtencimfeipglaaaDoor
open Go

theorem bytesLess_asymm : ∀ a b : List UInt8, Op.bytesLess a b = true → Op.bytesLess b a = false
  | _, [], h => by cases a_ : (‹List UInt8› : List UInt8) <;> simp [Op.bytesLess] at h
  | [], _ :: _, _ => rfl
  | a :: x, b :: y, h => by
    have ih := bytesLess_asymm x y
    simp only [Op.bytesLess, Bool.or_eq_true, Bool.and_eq_true, decide_eq_true_eq, beq_iff_eq] at h
    have hn : ¬ (Op.bytesLess (b :: y) (a :: x) = true) := by
      simp only [Op.bytesLess, Bool.or_eq_true, Bool.and_eq_true, decide_eq_true_eq, beq_iff_eq]
      rintro (h2 | ⟨h2, h3⟩)
      · rcases h with h | ⟨h, _⟩
        · exact absurd (UInt8.lt_trans h h2) (UInt8.lt_irrefl _)
        · subst h; exact absurd h2 (UInt8.lt_irrefl _)
      · subst h2
        rcases h with h | ⟨_, h⟩
        · exact absurd h (UInt8.lt_irrefl _)
        · rw [ih h] at h3; cases h3
    simpa using hn
theorem bytesLess_self : ∀ a : List UInt8, Op.bytesLess a a = false
  | [] => rfl
  | a :: x => by simp [Op.bytesLess, bytesLess_self x]
theorem bytesLess_total : ∀ a b : List UInt8, Op.bytesLess a b = false → Op.bytesLess b a = false → a = b
  | [], [], _, _ => rfl
  | [], _ :: _, h, _ => by simp [Op.bytesLess] at h
  | _ :: _, [], _, h => by simp [Op.bytesLess] at h
  | a :: x, b :: y, h1, h2 => by
    simp only [Op.bytesLess, Bool.or_eq_false_iff, Bool.and_eq_false_iff, decide_eq_false_iff_not, beq_eq_false_iff_ne] at h1 h2
    have hab : a = b := by
      apply UInt8.le_antisymm
      · exact UInt8.not_lt.1 h2.1
      · exact UInt8.not_lt.1 h1.1
    subst hab
    have e1 : Op.bytesLess x y = false := by rcases h1.2 with h | h; exact absurd rfl h; exact h
    have e2 : Op.bytesLess y x = false := by rcases h2.2 with h | h; exact absurd rfl h; exact h
    rw [bytesLess_total x y e1 e2]
theorem bytesLess_swap (a b : List UInt8) : (!(Op.bytesLess a b || a == b)) = Op.bytesLess b a := by
  cases h1 : Op.bytesLess a b with
  | true => rw [bytesLess_asymm a b h1]; rfl
  | false =>
    cases h2 : Op.bytesLess b a with
    | true =>
      have : ¬ a = b := by rintro rfl; rw [h2] at h1; cases h1
      simp [this]
    | false => rw [bytesLess_total a b h1 h2]; simp
theorem binOp_str_gtr (t : TypeId) (a b : ByteArray) : binOp .gtr t (.string a) (.string b) = pure (.bool (Op.bytesLess b.toList a.toList)) := by
  rw [← bytesLess_swap]; simp [binOp, Op.stringOp]
theorem binOp_str_leq (t : TypeId) (a b : ByteArray) : binOp .leq t (.string a) (.string b) = pure (.bool !(Op.bytesLess b.toList a.toList)) := by
  rw [← bytesLess_swap]; simp [binOp, Op.stringOp]
theorem binOp_str_geq (t : TypeId) (a b : ByteArray) : binOp .geq t (.string a) (.string b) = pure (.bool !(Op.bytesLess a.toList b.toList)) := by simp [binOp, Op.stringOp]
end Go.Proofs.YtencimfeipglaaaDoor
