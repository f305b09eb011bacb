/- Plain: whether two rows of texts are the same. -/
import Derived.Test.YtmbfapgamcbajaaDoorXx11
set_option linter.unusedVariables false
set_option linter.unusedSimpArgs false
namespace Go.Proofs.YtmbfapgamcbajaaDoor.X
open Go.RowKit Go.Lib Go.Proofs.YtmbfapgamcbajaaDoorW.PrintWords Go.Proofs.YtmbfapgamcbajaaDoorW.PrintMore

theorem rdOf_get (x : List ByteArray) (i : Nat) (h : i < x.length) : rdOf ByteArray.empty x (i : Int) = x[i] := by
  unfold rdOf; rw [Int.toNat_natCast, List.getD_eq_getElem?_getD, List.getElem?_eq_getElem h]; rfl
theorem bytes_inj (a b : ByteArray) : a.toList = b.toList ↔ a = b := ⟨fun h => by
  rw [Go.ByteArray.toList_eq, Go.ByteArray.toList_eq] at h
  have := Array.toList_inj.1 h
  cases a; cases b; simp_all, fun h => by rw [h]⟩
theorem texts_loop (x y : List ByteArray) (h : x.length = y.length) (hl : x.length ≤ 1000) : ∀ (m k i : Nat), i + m = x.length → m < k → ∃ b, tipstaffref01_Texts.l0 k x y (i : Int) = some b ∧ (b = true ↔ x.drop i = y.drop i) := by
  intro m
  induction m with
  | zero =>
    intro k i hi hk
    obtain ⟨k, rfl⟩ : ∃ q, k = q + 1 := ⟨k - 1, by omega⟩
    refine ⟨true, by rw [tipstaffref01_Texts.l0, if_neg (by omega)], ?_⟩
    simp only [true_iff]
    rw [List.drop_eq_nil_of_le (by omega), List.drop_eq_nil_of_le (by omega)]
  | succ m ih =>
    intro k i hi hk
    obtain ⟨k, rfl⟩ : ∃ q, k = q + 1 := ⟨k - 1, by omega⟩
    have hix : i < x.length := by omega
    have hiy : i < y.length := by omega
    rw [tipstaffref01_Texts.l0, if_pos (by omega), if_pos (by omega), if_pos (by omega), rdOf_get x i hix, rdOf_get y i hiy]
    rw [List.drop_eq_getElem_cons hix, List.drop_eq_getElem_cons hiy]
    by_cases he : x[i] = y[i]
    · rw [if_pos (by rw [he]), show wrap64 ((i : Int) + 1) = ((i + 1 : Nat) : Int) by unfold wrap64; omega]
      obtain ⟨b, h1, h2⟩ := ih k (i + 1) (by omega) (by omega)
      exact ⟨b, h1, by rw [h2, he]; exact ⟨fun h => by rw [h], fun h => (List.cons.inj h).2⟩⟩
    · rw [if_neg (fun h => he ((bytes_inj _ _).1 h))]
      exact ⟨false, rfl, ⟨(fun h => nomatch h), fun h => absurd (List.cons.inj h).1 he⟩⟩
theorem texts_f (k : Nat) (x y : List ByteArray) (hl : x.length ≤ 1000) (hk : 1000 < k) : ∃ b, tipstaffref01_Texts.f k x y = some b ∧ (b = true ↔ x = y) := by
  unfold tipstaffref01_Texts.f
  by_cases h : (x.length : Int) = (y.length : Int)
  · rw [if_pos h]
    have := texts_loop x y (by omega) hl x.length k 0 (by omega) (by omega)
    simpa using this
  · rw [if_neg h]
    exact ⟨false, rfl, by simp; rintro rfl; exact h rfl⟩

/-- Whether they are, as the call gives it. -/
theorem texts_any (A0 : Option Addr) (c0 : Nat) (l0 : List ByteArray) (A1 : Option Addr) (c1 : Nat) (l1 : List ByteArray) (w : World) (hr0 : Kd.C Kd.string w A0 l0.length l0) (hc0 : l0.length ≤ c0) (hr1 : Kd.C Kd.string w A1 l1.length l1) (hc1 : l1.length ≤ c1) (hl : l0.length ≤ 1000) :
    Calls Tryd.prog 12 #[.slice A0 l0.length c0, .slice A1 l1.length c1] w fun e w' => ∃ b : Bool, e = .returned (.bool b) ∧ Aside0 (b = true ↔ l0 = l1) ∧ Drawn0 w w' := by
  obtain ⟨b, h1, h2⟩ := texts_f 1001 l0 l1 hl (by omega)
  refine (tipstaffref01_Texts.calls 1001 A0 c0 l0 A1 c1 l1 b w hr0 hc0 hr1 hc1 h1).mono ?_
  rintro e w' ⟨rfl, hd⟩
  exact ⟨b, rfl, ⟨h2⟩, hd⟩
end Go.Proofs.YtmbfapgamcbajaaDoor.X
