/- Plain: what value.Same computes. -/
import Derived.Test.YtbbgiedfkklojaaXx1
set_option linter.unusedVariables false
set_option linter.unusedSimpArgs false
namespace Go.Proofs.Ytbbgiedfkklojaa.X
open Go.RowKit Go.Lib Go.Proofs.YtbbgiedfkklojaaW.PrintWords

theorem eq_loop {α : Type} (rd : List α → Int → α) (eqb : α → α → Bool) (L : Nat → List α → List α → Int → Int → Option Bool)
    (hrd : ∀ (x : List α) (i : Nat) (h : i < x.length), rd x (i : Int) = x[i]) (heq : ∀ a b, eqb a b = true ↔ a = b)
    (hL : ∀ k x y n i, L (k + 1) x y n i = if i < n then (if 0 ≤ i then (if i < (x.length : Int) then (if i < (y.length : Int) then (if eqb (rd x i) (rd y i) = true then L k x y n (wrap64 (i + 1)) else some false) else none) else none) else none) else some true) :
    ∀ (m k i : Nat) (x y : List α), x.length = y.length → x.length ≤ 1000000 → i + m = x.length → m < k → ∃ b, L k x y (x.length : Int) (i : Int) = some b ∧ (b = true ↔ x.drop i = y.drop i) := by
  intro m
  induction m with
  | zero =>
    intro k i x y hxy hx hi hk
    obtain ⟨k, rfl⟩ : ∃ q, k = q + 1 := ⟨k - 1, by omega⟩
    refine ⟨true, by rw [hL, if_neg (by omega)], ?_⟩
    simp only [true_iff]
    rw [List.drop_eq_nil_of_le (by omega), List.drop_eq_nil_of_le (by omega)]
  | succ m ih =>
    intro k i x y hxy hx hi hk
    obtain ⟨k, rfl⟩ : ∃ q, k = q + 1 := ⟨k - 1, by omega⟩
    have hix : i < x.length := by omega
    have hiy : i < y.length := by omega
    rw [hL, if_pos (by omega), if_pos (by omega), if_pos (by omega), if_pos (by omega), hrd x i hix, hrd y i hiy]
    have d1 : x.drop i = x[i] :: x.drop (i + 1) := List.drop_eq_getElem_cons hix
    have d2 : y.drop i = y[i] :: y.drop (i + 1) := List.drop_eq_getElem_cons hiy
    by_cases he : eqb x[i] y[i] = true
    · rw [if_pos he, show wrap64 ((i : Int) + 1) = ((i + 1 : Nat) : Int) by unfold wrap64; omega]
      obtain ⟨b, h1, h2⟩ := ih k (i + 1) x y hxy hx (by omega) (by omega)
      refine ⟨b, h1, h2.trans ?_⟩
      rw [d1, d2, (heq _ _).1 he]
      simp only [List.cons.injEq, true_and]
    · rw [if_neg he]
      refine ⟨false, rfl, ?_⟩
      rw [d1, d2]
      constructor
      · intro h; cases h
      · intro h
        injection h with h _
        exact absurd ((heq _ _).2 h) he

theorem list_eq {α : Type} (rd : List α → Int → α) (eqb : α → α → Bool) (L : Nat → List α → List α → Int → Int → Option Bool) (F : Nat → List α → List α → Option Bool)
    (hrd : ∀ (x : List α) (i : Nat) (h : i < x.length), rd x (i : Int) = x[i]) (heq : ∀ a b, eqb a b = true ↔ a = b)
    (hL : ∀ k x y n i, L (k + 1) x y n i = if i < n then (if 0 ≤ i then (if i < (x.length : Int) then (if i < (y.length : Int) then (if eqb (rd x i) (rd y i) = true then L k x y n (wrap64 (i + 1)) else some false) else none) else none) else none) else some true)
    (hF : ∀ k x y, F k x y = if (x.length : Int) = (y.length : Int) then L k x y (x.length : Int) 0 else some false) (k : Nat) (x y : List α) (hx : x.length ≤ 1000000) (hk : x.length < k) :
    ∃ b, F k x y = some b ∧ (b = true ↔ x = y) := by
  rw [hF]
  by_cases h : (x.length : Int) = (y.length : Int)
  · rw [if_pos h]
    have := eq_loop rd eqb L hrd heq hL x.length k 0 x y (by omega) hx (by omega) hk
    simpa using this
  · rw [if_neg h]
    exact ⟨false, rfl, by simp; rintro rfl; exact h rfl⟩

theorem rdOf_get (x : List ByteArray) (i : Nat) (h : i < x.length) : rdOf ByteArray.empty x (i : Int) = x[i] := by
  unfold rdOf; rw [Int.toNat_natCast, List.getD_eq_getElem?_getD, List.getElem?_eq_getElem h]; rfl
theorem bytes_inj (a b : ByteArray) : a.toList = b.toList ↔ a = b := ⟨fun h => by
  rw [Go.ByteArray.toList_eq, Go.ByteArray.toList_eq] at h
  have := Array.toList_inj.1 h
  cases a; cases b; simp_all, fun h => by rw [h]⟩

theorem eq_str (k : Nat) (x y : List ByteArray) (hx : x.length ≤ 1000000) (hk : x.length < k) : ∃ b, slices_Equal_string_string.f k x y = some b ∧ (b = true ↔ x = y) :=
  list_eq (rdOf ByteArray.empty) (fun a b => decide (a.toList = b.toList)) slices_Equal_string_string.l0 slices_Equal_string_string.f rdOf_get (fun a b => by simp [bytes_inj]) (fun k x y n i => by simp [slices_Equal_string_string.l0]) (fun k x y => rfl) k x y hx hk

theorem rd_getPair (x : List S60) (i : Nat) (h : i < x.length) : rd_T60 x (i : Int) = x[i] := by
  unfold rd_T60; rw [Int.toNat_natCast, List.getD_eq_getElem?_getD, List.getElem?_eq_getElem h]; rfl
theorem eq_Pair (k : Nat) (x y : List S60) (hx : x.length ≤ 1000000) (hk : x.length < k) : ∃ b, api_Pair_53.f k x y = some b ∧ (b = true ↔ x = y) :=
  list_eq rd_T60 (fun a b => !(!(a.f0.toList == b.f0.toList) || !(a.f1.toList == b.f1.toList))) api_Pair_53.l0 api_Pair_53.f rd_getPair (fun a b => by
    cases a; cases b
    simp [bytes_inj]) (fun k x y n i => by
    simp only [api_Pair_53.l0]
    repeat (split; try rfl)
    all_goals simp_all) (fun k x y => rfl) k x y hx hk

theorem rd_getMark (x : List S62) (i : Nat) (h : i < x.length) : rd_T62 x (i : Int) = x[i] := by
  unfold rd_T62; rw [Int.toNat_natCast, List.getD_eq_getElem?_getD, List.getElem?_eq_getElem h]; rfl
theorem eq_Mark (k : Nat) (x y : List S62) (hx : x.length ≤ 1000000) (hk : x.length < k) : ∃ b, api_Mark_54.f k x y = some b ∧ (b = true ↔ x = y) :=
  list_eq rd_T62 (fun a b => !(!(a.f0.toList == b.f0.toList) || !(a.f1 == b.f1))) api_Mark_54.l0 api_Mark_54.f rd_getMark (fun a b => by
    cases a; cases b
    simp [bytes_inj]) (fun k x y n i => by
    simp only [api_Mark_54.l0]
    repeat (split; try rfl)
    all_goals simp_all) (fun k x y => rfl) k x y hx hk

/-- Same: whether all is equal. -/
theorem same_f (k : Nat) (a0 : Int) (a1 : ByteArray) (a2 : List ByteArray) (a3 : List S60) (a4 : List S62) (b0 : Int) (b1 : ByteArray) (b2 : List ByteArray) (b3 : List S60) (b4 : List S62)
    (h2 : a2.length ≤ 1000000) (h3 : a3.length ≤ 1000000) (h4 : a4.length ≤ 1000000) (k2 : a2.length < k) (k3 : a3.length < k) (k4 : a4.length < k) :
    ∃ b, value_Same.f k a0 a1 a2 a3 a4 b0 b1 b2 b3 b4 = some b ∧ (b = true ↔ a0 = b0 ∧ a1 = b1 ∧ a2 = b2 ∧ a3 = b3 ∧ a4 = b4) := by
  obtain ⟨x2, e2, i2⟩ := eq_str k a2 b2 h2 k2
  obtain ⟨x3, e3, i3⟩ := eq_Pair k a3 b3 h3 k3
  obtain ⟨x4, e4, i4⟩ := eq_Mark k a4 b4 h4 k4
  unfold value_Same.f
  rw [e2, e3, e4]
  simp only [Option.bind_some, bytes_inj]
  by_cases c0 : a0 = b0
  · by_cases c1 : a1 = b1
    · rw [if_pos c0, if_pos c1]
      cases x2 <;> cases x3 <;> cases x4 <;> simp_all
    · rw [if_pos c0, if_neg c1]
      exact ⟨false, rfl, by simp [c1]⟩
  · rw [if_neg c0]
    exact ⟨false, rfl, by simp [c0]⟩
end Go.Proofs.Ytbbgiedfkklojaa.X
