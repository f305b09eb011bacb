/- Plain: NumWords. -/
import Derived.Test.YtccgjpfkepamfaaDoorPNum1
import Derived.Test.YtccgjpfkepamfaaDoorXx5
set_option linter.unusedVariables false
set_option linter.unusedSimpArgs false
namespace Go.Proofs.YtccgjpfkepamfaaDoor.X
open Go.RowKit Go.Lib Go.Proofs.YtccgjpfkepamfaaDoorW.PrintWords

theorem word_app {x y : ByteArray} (hx : wordB x = true) (hy : wordB y = true) : wordB (x ++ y) = true := by
  unfold wordB at *
  rw [app_data, List.all_append]
  simp only [Bool.and_eq_true] at hx hy ⊢
  refine ⟨⟨hx.1, hy.1⟩, ?_⟩
  have := hx.2
  cases h : x.data.toList with
  | nil => rw [h] at this; simp at this
  | cons c r => rfl
theorem word_blank (x y : ByteArray) : wordB ((x ++ (⟨#[32]⟩ : ByteArray)) ++ y) = false := by
  unfold wordB
  rw [app_data, app_data, one_data]
  have : (x.data.toList ++ [32] ++ y.data.toList).all okc = false := by
    rw [List.all_eq_false]
    exact ⟨32, by simp, by decide⟩
  rw [this]
  rfl
theorem word_left {x y : ByteArray} (h : wordB (x ++ y) = true) (hx : ¬ x.toList = ([] : List UInt8)) : wordB x = true := by
  unfold wordB at *
  rw [app_data, List.all_append] at h
  simp only [Bool.and_eq_true] at h ⊢
  refine ⟨h.1.1, ?_⟩
  rw [toList_data] at hx
  cases hd : x.data.toList with
  | nil => exact absurd hd hx
  | cons c r => rfl
theorem low_app (x y : ByteArray) : lowB (x ++ y) = lowB x ++ lowB y := by
  apply str_ext'
  rw [lowB_data, app_data, app_data, lowB_data, lowB_data, List.map_append]

theorem NumWords (a b : ByteArray) : tipstafflaw01_NumWords.f a b = some true := by
  have h1 := short_size a
  have h2 := short_size b
  unfold tipstafflaw01_NumWords.f
  rw [shown_true, short_f, short_f]
  simp only [Option.bind_some, if_true]
  generalize shortB a = x at *
  generalize shortB b = y at *
  have e32 : (⟨#[32]⟩ : ByteArray).size = 1 := rfl
  have e0 : num_Word.f (⟨#[]⟩ : ByteArray) = some false := by rw [word_f _ (by decide)]; rfl
  have f1 := word_f x (by omega)
  have f2 := word_f y (by omega)
  have f3 := word_f (x ++ y) (by rw [app_size]; omega)
  have f4 := word_f ((x ++ (⟨#[32]⟩ : ByteArray)) ++ y) (by rw [app_size, app_size]; omega)
  rw [word_blank] at f4
  have f5 := low_f (x ++ y) (by rw [app_size]; omega)
  have f6 := low_f x (by omega)
  have f7 := low_f y (by omega)
  rw [low_app] at f5
  have s1 : x.size + y.size ≤ 9223372036854775807 := by omega
  have s2 : x.size + 1 ≤ 9223372036854775807 := by omega
  have s3 : (x ++ (⟨#[32]⟩ : ByteArray)).size + y.size ≤ 9223372036854775807 := by rw [app_size]; omega
  have s4 : (lowB x).size + (lowB y).size ≤ 9223372036854775807 := by rw [lowB_size, lowB_size]; omega
  simp only [f1, f2, f3, f4, f5, f6, f7, e0, s1, s2, s3, s4, Option.bind_some, if_true, Bool.false_eq_true, if_false]
  have h3 : wordB x = true → wordB y = true → wordB (x ++ y) = true := word_app
  have h4 : wordB (x ++ y) = true → ¬ x.toList = ([] : List UInt8) → wordB x = true := word_left
  cases hx : wordB x <;> cases hy : wordB y <;> cases hxy : wordB (x ++ y) <;> by_cases hn : x.toList = ([] : List UInt8) <;> simp_all
end Go.Proofs.YtccgjpfkepamfaaDoor.X
