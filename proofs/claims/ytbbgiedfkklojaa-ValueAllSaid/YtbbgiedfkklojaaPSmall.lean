/- Plain: what the document's Small, and value.Own, give. -/
import Derived.Test.YtbbgiedfkklojaaPVal1
import Derived.Test.YtbbgiedfkklojaaXx1
import Derived.Test.YtbbgiedfkklojaaXx24
set_option linter.unusedVariables false
set_option linter.unusedSimpArgs false
namespace Go.Proofs.Ytbbgiedfkklojaa.X
open Go.RowKit Go.Lib Go.Proofs.YtbbgiedfkklojaaW.PrintWords Go.Proofs.YtbbgiedfkklojaaW.PrintMore

theorem mn10 (n : Nat) : 0 ≤ mn (n : Int) 10 ∧ mn (n : Int) 10 ≤ (n : Int) ∧ (mn (n : Int) 10).toNat = min n 10 := by
  unfold mn
  split <;> omega
theorem take_mn {α : Type} (l : List α) : l.take ((mn (l.length : Int) 10) : Int).toNat = l.take 10 := by
  rw [(mn10 l.length).2.2]
  by_cases h : l.length ≤ 10
  · rw [Nat.min_eq_left h, List.take_length, List.take_of_length_le h]
  · rw [Nat.min_eq_right (by omega)]
theorem small_f (a0 : Int) (a1 : ByteArray) (l2 : List ByteArray) (l3 : List S60) (l4 : List S62) : tipstaffref09_Small.f a0 a1 l2 l3 l4 = some (a0, a1, l2.take 10, l3.take 10, l4.take 10) := by
  have m2 := mn10 l2.length
  have m3 := mn10 l3.length
  have m4 := mn10 l4.length
  unfold tipstaffref09_Small.f
  simp only [take_mn, Option.bind_some, List.nil_append, List.length_nil, List.length_take, Nat.zero_add]
  rw [if_pos m2.1, if_pos m2.2.1, if_pos (by omega), if_pos m3.1, if_pos m3.2.1, if_pos (by omega), if_pos m4.1, if_pos m4.2.1, if_pos (by omega)]
theorem own_f (a0 : Int) (a1 : ByteArray) (l2 : List ByteArray) (l3 : List S60) (l4 : List S62) (h2 : l2.length ≤ 1000000) (h3 : l3.length ≤ 1000000) (h4 : l4.length ≤ 1000000) : value_Own.f a0 a1 l2 l3 l4 = some (a0, a1, l2, l3, l4) := by
  unfold value_Own.f value_own_string.f api_Pair_61.f api_Mark_62.f
  rw [if_pos h2, if_pos h3, if_pos h4]
  rfl
end Go.Proofs.Ytbbgiedfkklojaa.X
