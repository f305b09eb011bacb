/- Plain: the words that the law makes fit. -/
import Derived.Test.YtmbfapgamcbajaaDoorPRefK
import Derived.Test.YtmbfapgamcbajaaDoorXx9
set_option linter.unusedVariables false
set_option linter.unusedSimpArgs false
namespace Go.Proofs.YtmbfapgamcbajaaDoor.X
open Go.RowKit Go.Proofs.YtmbfapgamcbajaaDoorW.PrintWords

def FitR (r : List ByteArray) : Prop := 1 ≤ r.length ∧ r.length ≤ 32 ∧ ∀ x ∈ r, x.size ≤ 60
theorem fit_end (l : List ByteArray) (out : List ByteArray) (i : Int) (ho : out.length ≤ 32) (hs : ∀ x ∈ out, x.size ≤ 60) : ∃ r, FitR r ∧ tipstafflaw06_fit.j1 1 l out i false = some r := by
  by_cases h : out.length = 0
  · refine ⟨[⟨#[]⟩], ⟨by simp, by simp, fun x hx => by rw [List.mem_singleton.1 hx]; decide⟩, ?_⟩
    simp only [tipstafflaw06_fit.j1]
    rw [if_neg (by decide), if_pos (by omega)]
  · refine ⟨out, ⟨by omega, ho, hs⟩, ?_⟩
    simp only [tipstafflaw06_fit.j1]
    rw [if_neg (by decide), if_neg (by omega)]
theorem fit_run (l : List ByteArray) : ∀ d i : Nat, 32 - i = d → i ≤ 32 → i ≤ l.length → ∀ out : List ByteArray, out.length = i → (∀ x ∈ out, x.size ≤ 60) → ∃ r k, FitR r ∧ tipstafflaw06_fit.l0 k l out (i : Int) = some r := by
  intro d
  induction d with
  | zero =>
    intro i hd hi hil out ho hs
    obtain ⟨r, hr, he⟩ := fit_end l out (i : Int) (by omega) hs
    refine ⟨r, 2, hr, ?_⟩
    simp only [tipstafflaw06_fit.l0]
    split
    · rw [decide_eq_false (by omega)]; exact he
    · exact he
  | succ d ih =>
    intro i hd hi hil out ho hs
    by_cases hlt : i < l.length
    · have hx : ∃ y, ∀ k, tipstafflaw06_fit.l0 (k + 2) l out (i : Int) = tipstafflaw06_fit.l0 k l (out ++ [y]) ((i + 1 : Nat) : Int) ∧ y.size ≤ 60 := by
        by_cases h60 : ((rdOf ByteArray.empty l (i : Int)).size : Int) > 60
        · refine ⟨(rdOf ByteArray.empty l (i : Int)).extract 0 60, fun k => ⟨?_, by rw [ByteArray.size_extract]; omega⟩⟩
          simp only [tipstafflaw06_fit.l0, tipstafflaw06_fit.j1]
          rw [if_pos (by omega), decide_eq_true (by omega), if_pos rfl, if_pos (by omega), if_pos (by omega), if_pos h60, if_pos (by omega), if_pos (by omega), if_pos (by omega), w64 (by omega) (by omega)]
          rfl
        · refine ⟨rdOf ByteArray.empty l (i : Int), fun k => ⟨?_, by omega⟩⟩
          simp only [tipstafflaw06_fit.l0, tipstafflaw06_fit.j1]
          rw [if_pos (by omega), decide_eq_true (by omega), if_pos rfl, if_pos (by omega), if_pos (by omega), if_neg h60, if_pos (by omega), w64 (by omega) (by omega)]
          rfl
      obtain ⟨y, hy⟩ := hx
      obtain ⟨r, k, hr, he⟩ := ih (i + 1) (by omega) (by omega) (by omega) (out ++ [y]) (by simp; omega) (by
        intro x hx
        rcases List.mem_append.1 hx with h | h
        · exact hs x h
        · rw [List.mem_singleton.1 h]; exact (hy 0).2)
      exact ⟨r, k + 2, hr, by rw [(hy k).1]; exact he⟩
    · obtain ⟨r, hr, he⟩ := fit_end l out (i : Int) (by omega) hs
      refine ⟨r, 2, hr, ?_⟩
      simp only [tipstafflaw06_fit.l0]
      rw [if_neg (by omega)]
      exact he
theorem fit_f (l : List ByteArray) : ∃ r k, FitR r ∧ tipstafflaw06_fit.f k l = some r := fit_run l 32 0 rfl (by omega) (by omega) [] rfl (by simp)
theorem fit_any (A : Option Addr) (l : List ByteArray) (c : Nat) (w : World) (hr0 : Kd.C Kd.string w A l.length l) (hc0 : l.length ≤ c) :
    Calls Tryd.prog 13 #[.slice A l.length c] w fun e w' => ∃ (A' : Option Addr) (m c' : Nat) (r : List ByteArray), e = .returned (.slice A' m c') ∧ Aside0 (m = r.length) ∧ Aside0 (m ≤ c') ∧ Aside0 (FitR r) ∧ Aside0 (Kd.C Kd.string w' A' r.length r) ∧ Aside0 (Below w.heap.size w w') := by
  obtain ⟨r, k, hr, hf⟩ := fit_f l
  refine (tipstafflaw06_fit.calls k A c l r w hr0 hc0 hf).mono ?_
  rintro e w' ⟨v0, rfl, hR, hB⟩
  obtain ⟨A1, c1, rfl, hc1, hC1⟩ := Kd.R_reads hR
  exact ⟨A1, _, c1, r, rfl, ⟨rfl⟩, ⟨hc1⟩, ⟨hr⟩, ⟨hC1⟩, ⟨hB⟩⟩
end Go.Proofs.YtmbfapgamcbajaaDoor.X
