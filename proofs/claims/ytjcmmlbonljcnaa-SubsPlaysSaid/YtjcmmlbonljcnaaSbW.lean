/- Walks: who hears what. -/
import Derived.Test.YtjcmmlbonljcnaaSbSt
import Derived.WalkSpells
import Derived.Deep.RegionWith
import Derived.Deep.QuietTactic
import Derived.BigQuiet
import Derived.LoopTactic
set_option linter.unusedVariables false
set_option linter.unusedSimpArgs false
namespace Go.Proofs.Ytjcmmlbonljcnaa.X
open Go.RowKit Go.Maps Go.ChangeMaps Go.MapKept Go.Proofs.Ytjcmmlbonljcnaa.Mv Go.Proofs.YtjcmmlbonljcnaaW.PrintWords

/-- The map has the pairs of L. -/
def RelM (M : Lit → Option Value) (L : List Pr) : Prop :=
  (∀ kl v, M kl = some v → v = .bool true ∧ ∃ p ∈ L, kl = prL p) ∧ ∀ p ∈ L, M (prL p) = some (.bool true)
/-- Subs at block g, its map block m, at most n pairs: L. -/
def SubsAt (w : World) (g m n : Nat) (L : List Pr) : Prop :=
  w.heap[g]? = some (.cells #[.map (some m)] 50 (0, 0)) ∧ ∃ M, MapV Try.prog 52 w m n M ∧ RelM M L ∧ Srt L ∧ (∀ p ∈ L, PrOk p) ∧ L.length ≤ n

theorem pwlt {w : World} {g : Nat} {o : Obj} (h : w.heap[g]? = some o) : g < w.heap.size := by
  rcases Nat.lt_or_ge g w.heap.size with h' | h'
  · exact h'
  · simp [Array.getElem?_eq_none h'] at h
theorem SubsAt.lt {w : World} {g m n : Nat} {L : List Pr} (h : SubsAt w g m n L) : g < w.heap.size ∧ m < w.heap.size ∧ g ≠ m := by
  obtain ⟨h1, M, h2, _⟩ := h
  exact ⟨pwlt h1, h2.lt, fun e => h2.nocell (a := ⟨g, 0, none⟩) (v := .map (some m)) (by simp [World.cell?, h1]) e.symm⟩
theorem SubsAt.below {w w1 : World} {g m n : Nat} {L : List Pr} (h : SubsAt w g m n L) (hb : Below w.heap.size w w1) : SubsAt w1 g m n L := by
  have hl := h.lt
  obtain ⟨h1, M, h2, h3⟩ := h
  exact ⟨(hb.block g hl.1).trans h1, M, h2.same (hb.block m hl.2.1), h3⟩
theorem SubsAt.kp {w w1 : World} {g m n : Nat} {L : List Pr} {T : Nat → Prop} (h : SubsAt w g m n L) (hk : Kp T w w1) (h1 : ¬ T g) (h2 : ¬ T m) : SubsAt w1 g m n L := by
  have hl := h.lt
  obtain ⟨h1', M, h2', h3⟩ := h
  exact ⟨(hk.block g hl.1 h1).trans h1', M, h2'.same (hk.block m hl.2.1 h2), h3⟩
theorem SubsAt.mono {w : World} {g m n n' : Nat} {L : List Pr} (h : SubsAt w g m n L) (hn : n ≤ n') : SubsAt w g m n' L := by
  obtain ⟨h1, M, h2, h3, h4, h5, h6⟩ := h
  exact ⟨h1, M, h2.mono hn, h3, h4, h5, by omega⟩
theorem zeroB (w : World) : (zeroValue 4).run Try.prog w = .ok (.bool false) w := by kernel_rfl

set_option maxHeartbeats 400000 in
theorem new_any (w : World) : Calls Try.prog 8 #[] w fun e w' => ∃ g m, e = .returned (.pointer (some ⟨g, 0, none⟩)) ∧ Aside0 (SubsAt w' g m 0 []) ∧ w.heap.size ≤ g ∧ w.heap.size ≤ m ∧ Aside0 (Below w.heap.size w w') := by
  have hmm := @run_makeMap Try.prog
  go_enter Try.func8, Try.ntmps8
  go_wp2
  go_ret
  refine ⟨_, w.heap.size, rfl, ⟨?_, fun _ => none, (MapV.made w _ _).same (Below.heap_alloc _ _ _ (by simp)), ⟨fun kl v h => (by cases h), fun p hp => (by cases hp)⟩, List.Pairwise.nil, fun p hp => (by cases hp), Nat.le_refl _⟩, ?_, Nat.le_refl _, ⟨((Below.refl _ _).alloc (Nat.le_refl _) _).alloc (by simp) _⟩⟩
  · have := heap_alloc_new (w.alloc (.map #[] 0)) (.cells #[.map (some w.heap.size)] 50)
    simpa using this
  · simp
end Go.Proofs.Ytjcmmlbonljcnaa.X
