/- Plain: what FrameBack's readers give. -/
import Derived.Test.YtmbfapgamcbajaaDoorERRead
import Derived.Test.YtmbfapgamcbajaaDoorPFitF
import Derived.Test.YtmbfapgamcbajaaDoorPTexts
set_option linter.unusedVariables false
set_option linter.unusedSimpArgs false
namespace Go.Proofs.YtmbfapgamcbajaaDoor.X
open Go.RowKit Go.Proofs.YtmbfapgamcbajaaDoorW.PrintWords

theorem fit_size {x : List ByteArray} (h : FitR x) : ∀ w ∈ x, w.size ≤ 512 := fun w hw => by have := h.2.2 w hw; omega
theorem read_put (k : Nat) (x : List ByteArray) (hx : FitR x) (r : List UInt8) : readU (k + 1) (putU x ++ r) = (x, r, true, 0, false) := by
  have h := next_back x r (by have := hx.2.1; omega) (fit_size hx)
  rw [if_pos ⟨hx.1, hx.2.1⟩] at h
  unfold readU
  rw [h]
  have hn : ¬ (((putU x).length : Nat) : Int) = 0 := by
    have : 0 < (putU x).length := by simp [putU, lineP]
    omega
  have hne : x ≠ [] := by
    rintro rfl
    have := hx.1
    simp at this
  simp only [ne_eq, not_true_eq_false, if_false, Int.toNat_natCast]
  rw [if_neg hn, if_pos hne, List.drop_left]
theorem read_none (k : Nat) : readU (k + 1) [] = ([], [], false, 0, false) := by
  have h : nextU [] = ([], 0, 0) := by rfl
  unfold readU
  rw [h]
  simp
theorem reads_back (x y : List ByteArray) (hx : FitR x) (hy : FitR y) : readsU 3 (putU x ++ putU y) = ([x, y], [], 0, false) := by
  have h1 := read_put (putU x ++ putU y).length x hx (putU y)
  have h2 := read_put (putU y).length y hy []
  rw [List.append_nil] at h2
  have h3 := read_none ([] : List UInt8).length
  unfold readsU
  rw [h1]
  unfold readsU
  rw [h2]
  unfold readsU
  rw [h3]
  rfl
theorem cut_back (x : List ByteArray) (hx : FitR x) (k : Nat) (hk : k < (putU x).length) : nextU ((putU x).take k) = ([], 0, 0) := by
  have h := next_back x [] (by have := hx.2.1; omega) (fit_size hx)
  rw [if_pos ⟨hx.1, hx.2.1⟩, List.append_nil] at h
  rcases next_grows ((putU x).take k) ((putU x).drop k) with h1 | h1
  · exact h1
  · rw [List.take_append_drop, h] at h1
    rcases next_fits ((putU x).take k) with h2 | h2 | ⟨l, n, h2, h3, h4, _⟩
    · exact h2
    · rw [← h1] at h2
      simp at h2
    · rw [← h1] at h2
      simp only [Prod.mk.injEq] at h2
      rw [List.length_take] at h4
      omega
theorem same_run (L : List (List ByteArray)) (hL : ∀ x ∈ L, x.length ≤ 1000) (hl : L.length ≤ 2000) : ∀ d i : Nat, L.length - i = d → i ≤ L.length → ∀ K, 1001 + d < K → tipstafflaw06_same.l0 K L L (i : Int) = some true := by
  intro d
  induction d with
  | zero =>
    intro i hd hi K hK
    obtain ⟨K', rfl⟩ : ∃ K', K = K' + 1 := ⟨K - 1, by omega⟩
    simp only [tipstafflaw06_same.l0]
    rw [if_neg (by omega)]
  | succ d ih =>
    intro i hd hi K hK
    obtain ⟨K', rfl⟩ : ∃ K', K = K' + 1 := ⟨K - 1, by omega⟩
    have hlt : i < L.length := by omega
    simp only [tipstafflaw06_same.l0]
    have hm : (rd_L4 L (i : Int)).length ≤ 1000 := by
      have : rd_L4 L (i : Int) = L[i] := by unfold rd_L4; simp [List.getD_eq_getElem?_getD, List.getElem?_eq_getElem hlt]
      rw [this]
      exact hL _ (List.getElem_mem hlt)
    obtain ⟨b, hb, hbt⟩ := texts_f K' (rd_L4 L (i : Int)) (rd_L4 L (i : Int)) hm (by omega)
    rw [if_pos (by omega), if_pos (by omega), if_pos (by omega), hb, hbt.2 rfl]
    simp only [Option.bind_some, if_true]
    rw [w64 (by omega) (by omega)]
    exact ih (i + 1) (by omega) (by omega) K' (by omega)
theorem same_f (L : List (List ByteArray)) (hL : ∀ x ∈ L, x.length ≤ 1000) (hl : L.length ≤ 2000) : tipstafflaw06_same.f (1002 + L.length) L L = some true := by
  unfold tipstafflaw06_same.f
  rw [if_pos rfl]
  exact same_run L hL hl L.length 0 rfl (by omega) _ (by omega)

/-- A literal row of two rows. -/
theorem lit_rows (w : World) (x y : List ByteArray) (A B : Option Addr) (c d : Nat) (fr : Nat × Nat) (hA : Kd.C Kd.string w A x.length x) (hc : x.length ≤ c) (hB : Kd.C Kd.string w B y.length y) (hd : y.length ≤ d) :
    Kd.C kReq (w.alloc (.cells #[.slice A x.length c, .slice B y.length d] 25 fr)) (some ⟨w.heap.size, 0, none⟩) 2 [x, y] := by
  have hb : Below w.heap.size w (w.alloc (.cells #[.slice A x.length c, .slice B y.length d] 25 fr)) := below_alloc (Below.refl _ _) _
  have hh : (w.alloc (.cells #[.slice A x.length c, .slice B y.length d] 25 fr)).heap[w.heap.size]? = some (.cells #[.slice A x.length c, .slice B y.length d] 25 fr) := by
    show (w.heap.push _)[w.heap.size]? = _
    simp
  refine ⟨rfl, by omega, fun _ => ⟨_, rfl, fun j p hj => ?_⟩⟩
  rcases (by have := (List.getElem?_eq_some_iff.1 hj).1; simp at this; omega : j = 0 ∨ j = 1) with rfl | rfl
  · simp at hj
    subst hj
    refine ⟨[.slice A x.length c], rfl, ⟨A, c, rfl, hc, Kd.C_below hA hb⟩, fun i u hu => ?_⟩
    have : i = 0 := by have := (List.getElem?_eq_some_iff.1 hu).1; simp at this; omega
    subst this
    simp at hu
    subst hu
    rw [add_plain]
    unfold World.cell?
    dsimp only
    rw [hh]
    rfl
  · simp at hj
    subst hj
    refine ⟨[.slice B y.length d], rfl, ⟨B, d, rfl, hd, Kd.C_below hB hb⟩, fun i u hu => ?_⟩
    have : i = 0 := by have := (List.getElem?_eq_some_iff.1 hu).1; simp at this; omega
    subst this
    simp at hu
    subst hu
    rw [add_plain]
    unfold World.cell?
    dsimp only
    rw [hh]
    rfl
end Go.Proofs.YtmbfapgamcbajaaDoor.X
