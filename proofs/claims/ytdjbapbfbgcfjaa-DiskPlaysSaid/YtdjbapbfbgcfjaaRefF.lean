/- The document's disk against the map of files: both say the same of each name. -/
import Derived.Test.YtdjbapbfbgcfjaaRefE
set_option linter.unusedVariables false
set_option linter.unusedSimpArgs false
namespace Go.Proofs.Ytdjbapbfbgcfjaa
open Go.RowKit Go.Maps Go.ChangeMaps Go.MapKept Mv Go.Proofs.YtdjbapbfbgcfjaaW.PrintWords

/-- The list says of each name what the map says. -/
def Sim (F : Lit → Option (List Int × Bool)) (fs : List Fl) : Prop := ∀ s : ByteArray, (∀ i f, FirstAt fs s i f → F (nm s) = some (f.b, f.s)) ∧ (NoneAt fs s → F (nm s) = none)
theorem Sim.start : Sim (fun _ => none) [] := fun s => ⟨fun i f h => by have := h.1; simp at this, fun _ => rfl⟩

theorem first_uniq {fs : List Fl} {s : ByteArray} {i j : Nat} {f g : Fl} (h : FirstAt fs s i f) (k : FirstAt fs s j g) : i = j ∧ f = g := by
  have hij : i = j := by
    rcases Nat.lt_trichotomy i j with h1 | h1 | h1
    · exact absurd h.2.1 (k.2.2 i f h1 h.1)
    · exact h1
    · exact absurd k.2.1 (h.2.2 j g h1 k.1)
  subst hij
  have := h.1.symm.trans k.1
  injection this with this
  exact ⟨rfl, this⟩
/-- Sim by what stands first. -/
theorem Sim.of {F : Lit → Option (List Int × Bool)} {fs : List Fl} (h : ∀ s : ByteArray, (∃ i f, FirstAt fs s i f ∧ F (nm s) = some (f.b, f.s)) ∨ (NoneAt fs s ∧ F (nm s) = none)) : Sim F fs := fun s => by
  rcases h s with ⟨i, f, h1, h2⟩ | ⟨h1, h2⟩
  · refine ⟨fun j g h3 => ?_, fun h3 => absurd h1.2.1 (h3 i f h1.1)⟩
    rw [← (first_uniq h1 h3).2]
    exact h2
  · exact ⟨fun j g h3 => absurd h3.2.1 (h1 j g h3.1), fun _ => h2⟩

/-- A filter that keeps a name: what stands first of it stays. -/
theorem filter_first (P : Fl → Bool) {s : ByteArray} (hP : ∀ f : Fl, f.nm = s → P f = true) : ∀ (fs : List Fl), (∀ i f, FirstAt fs s i f → ∃ j, FirstAt (fs.filter P) s j f) ∧ (NoneAt fs s → NoneAt (fs.filter P) s)
  | [] => ⟨fun i f h => by have := h.1; simp at this, fun h => h⟩
  | a :: l => by
    obtain ⟨ih1, ih2⟩ := filter_first P hP l
    refine ⟨fun i f h => ?_, fun h => ?_⟩
    · rcases i with _ | i
      · have ha : a = f := by simpa using h.1
        subst ha
        rw [List.filter_cons_of_pos (hP a h.2.1)]
        exact ⟨0, rfl, h.2.1, fun j g hj => absurd hj (by omega)⟩
      · have hl : FirstAt l s i f := ⟨by simpa using h.1, h.2.1, fun j g hj hg => h.2.2 (j + 1) g (by omega) (by simpa using hg)⟩
        obtain ⟨j, hj⟩ := ih1 i f hl
        by_cases hp : P a = true
        · rw [List.filter_cons_of_pos hp]
          refine ⟨j + 1, by simpa using hj.1, hj.2.1, fun k g hk hg => ?_⟩
          rcases k with _ | k
          · have : a = g := by simpa using hg
            subst this
            exact h.2.2 0 a (by omega) rfl
          · exact hj.2.2 k g (by omega) (by simpa using hg)
        · rw [List.filter_cons_of_neg hp]
          exact ⟨j, hj⟩
    · have hl : NoneAt l s := fun j g hg => h (j + 1) g (by simpa using hg)
      by_cases hp : P a = true
      · rw [List.filter_cons_of_pos hp]
        intro j g hg
        rcases j with _ | j
        · have : a = g := by simpa using hg
          subst this
          exact h 0 a rfl
        · exact ih2 hl j g (by simpa using hg)
      · rw [List.filter_cons_of_neg hp]
        exact ih2 hl
theorem filter_none (fs : List Fl) (s : ByteArray) : NoneAt (fs.filter (fun f => f.nm ≠ s)) s := fun j g hg => by
  have := List.mem_of_getElem? hg
  simpa using (List.mem_filter.1 this).2
theorem none_append {fs : List Fl} {s : ByteArray} {f : Fl} (h : NoneAt fs s) (hf : f.nm ≠ s) : NoneAt (fs ++ [f]) s := fun j g hg => by
  by_cases hj : j < fs.length
  · rw [List.getElem?_append_left hj] at hg
    exact h j g hg
  · rw [List.getElem?_append_right (by omega)] at hg
    rcases hk : j - fs.length with _ | k
    · rw [hk] at hg
      have : f = g := by simpa using hg
      subst this
      exact hf
    · rw [hk] at hg
      simp at hg
theorem first_append {fs : List Fl} {s : ByteArray} {i : Nat} {g : Fl} (f : Fl) (h : FirstAt fs s i g) : FirstAt (fs ++ [f]) s i g := by
  have hi := (List.getElem?_eq_some_iff.1 h.1).1
  refine ⟨by rw [List.getElem?_append_left hi]; exact h.1, h.2.1, fun j g' hj hg => ?_⟩
  rw [List.getElem?_append_left (by omega)] at hg
  exact h.2.2 j g' hj hg
theorem first_last {fs : List Fl} {s : ByteArray} (f : Fl) (h : NoneAt fs s) (hf : f.nm = s) : FirstAt (fs ++ [f]) s fs.length f := by
  refine ⟨by rw [List.getElem?_append_right (Nat.le_refl _)]; simp, hf, fun j g hj hg => ?_⟩
  rw [List.getElem?_append_left hj] at hg
  exact h j g hg
/-- What a list says of a name. -/
theorem Sim.cases {F : Lit → Option (List Int × Bool)} {fs : List Fl} (h : Sim F fs) (s : ByteArray) : (∃ i f, FirstAt fs s i f ∧ F (nm s) = some (f.b, f.s)) ∨ (NoneAt fs s ∧ F (nm s) = none) := by
  rcases first_or fs s with ⟨i, f, hf⟩ | hn
  · exact .inl ⟨i, f, hf, (h s).1 i f hf⟩
  · exact .inr ⟨hn, (h s).2 hn⟩

theorem Sim.drop {F : Lit → Option (List Int × Bool)} {fs : List Fl} (h : Sim F fs) (s : ByteArray) : Sim (updF F (nm s) none) (fs.filter (fun f => f.nm ≠ s)) := Sim.of fun x => by
  by_cases hx : x = s
  · subst hx
    exact .inr ⟨filter_none fs x, updF_same _ _ _⟩
  · rw [updF_other _ _ (nm_ne hx)]
    have hP : ∀ f : Fl, f.nm = x → (fun f : Fl => decide (f.nm ≠ s)) f = true := fun f e => by simp [e, hx]
    rcases h.cases x with ⟨i, f, h1, h2⟩ | ⟨h1, h2⟩
    · obtain ⟨j, hj⟩ := (filter_first _ hP fs).1 i f h1
      exact .inl ⟨j, f, hj, h2⟩
    · exact .inr ⟨(filter_first _ hP fs).2 h1, h2⟩
theorem Sim.push {F : Lit → Option (List Int × Bool)} {fs : List Fl} (h : Sim F fs) (f : Fl) (hn : F (nm f.nm) = none) : Sim (updF F (nm f.nm) (some (f.b, f.s))) (fs ++ [f]) := Sim.of fun x => by
  by_cases hx : x = f.nm
  · subst hx
    rcases h.cases f.nm with ⟨i, g, h1, h2⟩ | ⟨h1, h2⟩
    · rw [hn] at h2
      cases h2
    · exact .inl ⟨_, f, first_last f h1 rfl, updF_same _ _ _⟩
  · rw [updF_other _ _ (nm_ne hx)]
    rcases h.cases x with ⟨i, g, h1, h2⟩ | ⟨h1, h2⟩
    · exact .inl ⟨i, g, first_append f h1, h2⟩
    · exact .inr ⟨none_append h1 (fun e => hx e.symm), h2⟩
theorem updF_upd (F : Lit → Option (List Int × Bool)) (k : Lit) (a b : Option (List Int × Bool)) : updF (updF F k a) k b = updF F k b := by
  funext x
  by_cases h : x = k
  · subst h; rw [updF_same, updF_same]
  · rw [updF_other _ _ h, updF_other _ _ h, updF_other _ _ h]
theorem Sim.write {F : Lit → Option (List Int × Bool)} {fs : List Fl} (h : Sim F fs) (s : ByteArray) (b : List Int) : Sim (updF F (nm s) (some (b, false))) (fs.filter (fun f => f.nm ≠ s) ++ [⟨s, b, false⟩]) := by
  have := (h.drop s).push ⟨s, b, false⟩ (updF_same _ _ _)
  rw [updF_upd] at this
  exact this
theorem Sim.rename {F : Lit → Option (List Int × Bool)} {fs : List Fl} (h : Sim F fs) (s t : ByteArray) {i : Nat} {f : Fl} (hf : FirstAt fs s i f) : Sim (renF F (nm s) (nm t)) ((fs.filter (fun f => f.nm ≠ s)).filter (fun f => f.nm ≠ t) ++ [{ f with nm := t }]) := by
  have h1 := (h s).1 i f hf
  have := ((h.drop s).drop t).push { f with nm := t } (updF_same _ _ _)
  rw [updF_upd] at this
  unfold renF
  rw [h1, if_pos (by simp)]
  exact this
theorem Sim.set {F : Lit → Option (List Int × Bool)} {fs : List Fl} (h : Sim F fs) {s : ByteArray} {i : Nat} {f : Fl} (hf : FirstAt fs s i f) : Sim (syncF F (nm s)) (fs.set i { f with s := true }) := by
  have h1 := (h s).1 i f hf
  have hi := (List.getElem?_eq_some_iff.1 hf.1).1
  unfold syncF
  rw [h1]
  refine Sim.of fun x => ?_
  by_cases hx : x = s
  · subst hx
    refine .inl ⟨i, { f with s := true }, ⟨List.getElem?_set_self hi, hf.2.1, fun j g hj hg => ?_⟩, updF_same _ _ _⟩
    rw [List.getElem?_set_ne (by omega)] at hg
    exact hf.2.2 j g hj hg
  · rw [updF_other _ _ (nm_ne hx)]
    rcases h.cases x with ⟨k, g, h2, h3⟩ | ⟨h2, h3⟩
    · have hk : k ≠ i := fun e => by
        subst e
        have := h2.1.symm.trans hf.1
        injection this with this
        subst this
        exact hx (h2.2.1.symm.trans hf.2.1)
      refine .inl ⟨k, g, ⟨by rw [List.getElem?_set_ne (fun e => hk e.symm)]; exact h2.1, h2.2.1, fun j g' hj hg => ?_⟩, h3⟩
      by_cases hji : j = i
      · subst hji
        rw [List.getElem?_set_self hi] at hg
        injection hg with hg
        subst hg
        exact fun e => h2.2.2 j f hj hf.1 e
      · rw [List.getElem?_set_ne (fun e => hji e.symm)] at hg
        exact h2.2.2 j g' hj hg
    · refine .inr ⟨fun j g hg => ?_, h3⟩
      by_cases hji : j = i
      · subst hji
        rw [List.getElem?_set_self hi] at hg
        injection hg with hg
        subst hg
        exact fun e => h2 j f hf.1 e
      · rw [List.getElem?_set_ne (fun e => hji e.symm)] at hg
        exact h2 j g hg
theorem crR_nm (keep : Int) (f : Fl) : (crR keep f).nm = f.nm := by unfold crR; split <;> rfl
theorem crR_pair (keep : Int) (f : Fl) : ((crR keep f).b, (crR keep f).s) = crash1 keep (f.b, f.s) := by
  unfold crR crash1
  by_cases h : f.s = true
  · simp [h]
  · simp [h]
theorem Sim.crash {F : Lit → Option (List Int × Bool)} {fs : List Fl} (h : Sim F fs) (keep : Int) : Sim (crashF keep F) (fs.map (crR keep)) := Sim.of fun x => by
  rcases h.cases x with ⟨i, f, h1, h2⟩ | ⟨h1, h2⟩
  · refine .inl ⟨i, crR keep f, ⟨by rw [List.getElem?_map, h1.1]; rfl, by rw [crR_nm]; exact h1.2.1, fun j g hj hg => ?_⟩, ?_⟩
    · rw [List.getElem?_map] at hg
      obtain ⟨g', hg', rfl⟩ := Option.map_eq_some_iff.1 hg
      rw [crR_nm]
      exact h1.2.2 j g' hj hg'
    · rw [crashF_some h2, crR_pair]
  · refine .inr ⟨fun j g hg => ?_, crashF_none h2⟩
    rw [List.getElem?_map] at hg
    obtain ⟨g', hg', rfl⟩ := Option.map_eq_some_iff.1 hg
    rw [crR_nm]
    exact h1 j g' hg'
end Go.Proofs.Ytdjbapbfbgcfjaa
