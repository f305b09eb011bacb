/- Plain: NumBack. -/
import Derived.Test.YtccgjpfkepamfaaDoorPNum1
import Derived.Test.YtccgjpfkepamfaaDoorXx3
set_option linter.unusedVariables false
set_option linter.unusedSimpArgs false
namespace Go.Proofs.YtccgjpfkepamfaaDoor.X
open Go.RowKit Go.Lib Go.Proofs.YtccgjpfkepamfaaDoorW.PrintWords

theorem parse_pre (c : UInt8) (hc : c = 48 ∨ c = 43) (n : Int) : parseB ((⟨#[c]⟩ : ByteArray) ++ textB n) = (0, false) := by
  refine parse_false fun v _ _ he => ?_
  rw [app_data, one_data, textB_data] at he
  obtain ⟨d, r, h1, h2, h3, h4, h5, h6⟩ := itoa_head v
  obtain ⟨d', r', h1', _⟩ := itoa_head n
  rw [h1, h1'] at he
  injection he with e1 e2
  subst e1
  rcases hc with rfl | rfl
  · have := (h4 rfl).2
    subst this
    cases e2
  · rcases h2 with h2 | h2
    · exact absurd h2 (by decide)
    · exact absurd h2 (by decide)
theorem parse_post (n : Int) : parseB (textB n ++ (⟨#[32]⟩ : ByteArray)) = (0, false) := by
  refine parse_false fun v _ _ he => ?_
  rw [app_data, one_data, textB_data] at he
  obtain ⟨d, r, h1, h2, h3, h4, h5, h6⟩ := itoa_head v
  have hm : (32 : UInt8) ∈ itoa v := by rw [he]; simp
  rw [h1] at hm
  rcases List.mem_cons.1 hm with e | hm
  · subst e
    rcases h2 with h2 | h2
    · exact absurd h2 (by decide)
    · exact absurd h2 (by decide)
  · exact absurd (h3 _ hm) (by decide)


theorem NumBack (a : Int) (s : ByteArray) (ha : i64 a) : tipstafflaw01_NumBack.f a s = some true := by
  have hl : (textB a).size ≤ 20 := by rw [textB_size]; exact itoa_len a ha.1 ha.2
  have hs := short_size s
  have e48 : (⟨#[48]⟩ : ByteArray).size = 1 := rfl
  have e43 : (⟨#[43]⟩ : ByteArray).size = 1 := rfl
  have e32 : (⟨#[32]⟩ : ByteArray).size = 1 := rfl
  unfold tipstafflaw01_NumBack.f
  rw [shown_true, text_f a ha.1 ha.2]
  simp only [Option.bind_some]
  rw [parse_f _ (by omega), parse_text a ha.1 ha.2, if_pos (by omega), parse_f _ (by rw [app_size]; omega), parse_pre 48 (.inl rfl), parse_f _ (by rw [app_size]; omega), parse_pre 43 (.inr rfl)]
  simp only [Option.bind_some]
  rw [if_pos (by omega), parse_f _ (by rw [app_size]; omega), parse_post, short_f]
  simp only [Option.bind_some]
  rw [parse_f _ (by omega)]
  simp only [Option.bind_some, if_true, Bool.false_eq_true, if_false]
  rcases parse_cases (shortB s) with ⟨v, h1, h2, h3, h4⟩ | h1
  · rw [h1]
    simp only [if_true]
    rw [text_f v h3 h4]
    simp only [Option.bind_some]
    rw [h2, if_pos rfl, if_pos (by omega), word_f _ (by omega), word_text]
    rfl
  · rw [h1]
    simp only [Bool.false_eq_true, if_false, if_true]
    rw [if_pos (by omega), word_f _ (by omega), word_text]
    rfl

end Go.Proofs.YtccgjpfkepamfaaDoor.X
