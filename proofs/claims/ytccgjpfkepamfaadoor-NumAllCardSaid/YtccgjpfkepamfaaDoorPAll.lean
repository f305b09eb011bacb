/- Plain: NumAll. -/
import Derived.Test.YtccgjpfkepamfaaDoorPNum2
import Derived.Test.YtccgjpfkepamfaaDoorXx9
set_option linter.unusedVariables false
set_option linter.unusedSimpArgs false
namespace Go.Proofs.YtccgjpfkepamfaaDoor.X
open Go.RowKit Go.Lib Go.Proofs.YtccgjpfkepamfaaDoorW.PrintWords

theorem NumAll (a b : Int) (s : ByteArray) (ha : i64 a) (hb : i64 b) : ∃ k, tipstafflaw01_NumAll.f k a b s = some true := by
  have hs := short_size s
  obtain ⟨r, hr, rfl⟩ := ref_add a b ha hb
  obtain ⟨k1, h1⟩ := ref_parse_ev _ hs
  obtain ⟨k2, h2⟩ := ref_text_ev a ha
  obtain ⟨k3, h3⟩ := ref_low_ev _ hs
  obtain ⟨k4, h4⟩ := ref_word_ev _ hs
  refine ⟨k1 + k2 + k3 + k4, ?_⟩
  have g1 := h1 (k1 + k2 + k3 + k4) (by omega)
  have g2 := h2 (k1 + k2 + k3 + k4) (by omega)
  have g3 := h3 (k1 + k2 + k3 + k4) (by omega)
  have g4 := h4 (k1 + k2 + k3 + k4) (by omega)
  simp only at g1 g2 g3 g4
  unfold tipstafflaw01_NumAll.f
  rw [shown_true, short_f]
  simp only [Option.bind_some]
  rw [parse_f _ (by omega), g1, add_f a b ha hb, hr, text_f a ha.1 ha.2, g2, low_f _ (by omega), g3, word_f _ (by omega), g4]
  simp
end Go.Proofs.YtccgjpfkepamfaaDoor.X
