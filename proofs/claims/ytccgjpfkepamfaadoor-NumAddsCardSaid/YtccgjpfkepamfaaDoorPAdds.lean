/- Plain: NumAdds. -/
import Derived.Test.YtccgjpfkepamfaaDoorPNum1
import Derived.Test.YtccgjpfkepamfaaDoorXx2
set_option linter.unusedVariables false
set_option linter.unusedSimpArgs false
namespace Go.Proofs.YtccgjpfkepamfaaDoor.X
open Go.RowKit Go.Lib Go.Proofs.YtccgjpfkepamfaaDoorW.PrintWords

theorem NumAdds (a b : Int) (ha : i64 a) (hb : i64 b) : tipstafflaw01_NumAdds.f a b = some true := by
  unfold tipstafflaw01_NumAdds.f
  rw [shown_true, add_f a b ha hb, add_f b a hb ha]
  simp only [Option.bind_some]
  obtain ⟨a1, a2⟩ := ha
  obtain ⟨b1, b2⟩ := hb
  unfold addB
  rw [Int.add_comm b a]
  by_cases h : -9223372036854775808 ≤ a + b ∧ a + b ≤ 9223372036854775807
  · simp only [if_pos h]
    have hn : i64 (wrap64 (-b)) := by unfold i64 wrap64; omega
    rw [add_f _ _ h hn]
    simp only [Option.bind_some, bne_self_eq_false, Bool.false_eq_true, if_false, if_true]
    by_cases hb0 : b ≥ 0
    · rw [if_pos hb0, if_pos (by unfold wrap64; omega)]
      have hm : ¬ b = -9223372036854775808 := by omega
      have hw : wrap64 (-b) = -b := by unfold wrap64; omega
      rw [hw]
      have : addB (a + b) (-b) = (a, true) := by
        unfold addB
        rw [if_pos (by omega)]
        congr 1
        omega
      rw [this]
      simp [hm]
    · rw [if_neg hb0, if_pos (by omega)]
      have h1 : a ≥ wrap64 ((-9223372036854775808) - b) := by unfold wrap64; omega
      by_cases hm : b = -9223372036854775808
      · simp [h1, hm]
        subst hm
        exact h1
      · have hw : wrap64 (-b) = -b := by unfold wrap64; omega
        rw [hw]
        have : addB (a + b) (-b) = (a, true) := by
          unfold addB
          rw [if_pos (by omega)]
          congr 1
          omega
        rw [this]
        simp [h1, hm]
  · simp only [if_neg h]
    have hn : i64 (wrap64 (-b)) := by unfold i64 wrap64; omega
    simp only [bne_self_eq_false, Bool.false_eq_true, if_false, if_true]
    rw [add_f 0 _ ⟨by omega, by omega⟩ hn]
    simp only [Option.bind_some]
    by_cases hb0 : b ≥ 0
    · have h2 : ¬ a ≤ wrap64 (9223372036854775807 - b) := by unfold wrap64; omega
      have h3 : ¬ b < 0 := by omega
      simp [hb0, h2, h3]
    · have h2 : ¬ a ≥ wrap64 ((-9223372036854775808) - b) := by unfold wrap64; omega
      have h3 : b < 0 := by omega
      simp [hb0, h2, h3]

end Go.Proofs.YtccgjpfkepamfaaDoor.X
