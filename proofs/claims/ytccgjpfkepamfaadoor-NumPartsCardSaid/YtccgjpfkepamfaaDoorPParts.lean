/- Plain: NumParts. -/
import Derived.Test.YtccgjpfkepamfaaDoorPNum2
import Derived.Test.YtccgjpfkepamfaaDoorXx10
import Derived.Test.YtccgjpfkepamfaaDoorXx11
import Derived.Test.YtccgjpfkepamfaaDoorXx12
set_option linter.unusedVariables false
set_option linter.unusedSimpArgs false
namespace Go.Proofs.YtccgjpfkepamfaaDoor.X
open Go.RowKit Go.Lib Go.Proofs.YtccgjpfkepamfaaDoorW.PrintWords

def lo (f m : Int) : Int := if f < 0 then f + m else f
def partR (m f t : Int) : Int × Int × Bool :=
  if mx (lo f m) 0 > mn (lo t m) (m - 1) then (0, 0, true) else (mx (lo f m) 0, mn (lo t m) (m - 1) + 1, true)

theorem mx_eq (a b : Int) : mx a b = if a < b then b else a := rfl
theorem mn_eq (a b : Int) : mn a b = if b < a then b else a := rfl

theorem part_j0 (m f t : Int) (hm0 : 0 ≤ m) (hm1 : m ≤ 100) (hf : i64 f) (ht : i64 t) : Ev (fun k => num_Part.j0 k m f t false) (partR m f t) := by
  obtain ⟨f1, f2⟩ := hf
  obtain ⟨t1, t2⟩ := ht
  have em : wrap64 (m - 1) = m - 1 := wrap_id (by unfold i64; omega)
  refine Ev.step (f := fun k => num_Part.j1 k m (mx (lo f m) 0) t) (fun k => ?_) (Ev.step (f := fun _ => some (partR m f t)) (fun k => ?_) (Ev.now _))
  · simp only [num_Part.j0]
    rw [if_neg (by decide)]
    by_cases h : f < 0
    · rw [if_pos h, wrap_id (by unfold i64; omega)]
      unfold lo
      rw [if_pos h]
    · rw [if_neg h]
      unfold lo
      rw [if_neg h, mx_eq, if_neg h]
  · simp only [num_Part.j1]
    have e2 : wrap64 (mn (lo t m) (m - 1) + 1) = mn (lo t m) (m - 1) + 1 := by
      unfold lo
      rw [mn_eq]
      apply wrap_id
      unfold i64
      split <;> split <;> omega
    unfold partR
    by_cases h : t < 0
    · have e3 : wrap64 (t + m) = lo t m := by unfold lo; rw [if_pos h, wrap_id (by unfold i64; omega)]
      rw [if_pos h, e3, em, e2]
      split <;> rfl
    · have e3 : t = lo t m := by unfold lo; rw [if_neg h]
      rw [if_neg h, em]
      rw [← e3] at e2
      rw [e2, ← e3]
      split <;> rfl

/-- What the document's loop has ahead of place i. -/
def stB (m f t i : Int) : Int × Int := if mx (lo f m) 0 ≤ mn (i - 1) (lo t m) then (mx (lo f m) 0, mn (i - 1) (lo t m) + 1) else (0, 0)

theorem part_l0 (m f t a b i : Int) (h0 : 0 ≤ i) (h1 : i < m) (hm1 : m ≤ 100) (n : Nat) :
    tipstaffref01_Part.l0 (n + 1) m f t a b i = tipstaffref01_Part.j2 n m f t a b i (decide (lo f m ≤ i ∧ i ≤ lo t m)) := by
  have ew : wrap64 (i - m) = i - m := wrap_id (by unfold i64; omega)
  simp only [tipstaffref01_Part.l0]
  rw [ew, if_pos h1]
  unfold lo
  by_cases hf : f < 0 <;> by_cases ht : t < 0
  all_goals
    simp only [hf, ht, if_true, if_false]
    repeat' split
    all_goals first
      | omega
      | (congr 1; first | (symm; exact decide_eq_true (by omega)) | (symm; exact decide_eq_false (by omega)) | exact decide_eq_decide.2 (by omega))

theorem part_run (m f t : Int) (hm0 : 0 ≤ m) (hm1 : m ≤ 100) : ∀ d i : Nat, m.toNat - i = d → (i : Int) ≤ m → Ev (fun n => tipstaffref01_Part.l0 n m f t (stB m f t i).1 (stB m f t i).2 (i : Int)) ((stB m f t m).1, (stB m f t m).2, true) := by
  intro d
  induction d with
  | zero =>
    intro i hd hi
    obtain rfl : m = (i : Int) := by omega
    refine Ev.step (f := fun _ => some ((stB i f t i).1, (stB i f t i).2, true)) (fun n => ?_) (Ev.now _)
    simp only [tipstaffref01_Part.l0]
    rw [if_neg (by omega)]
  | succ d ih =>
    intro i hd hi
    have ih' := ih (i + 1) (by omega) (by omega)
    have hw : wrap64 ((i : Int) + 1) = ((i + 1 : Nat) : Int) := by rw [wrap_id (by unfold i64; omega)]; omega
    have key : stB m f t ((i + 1 : Nat) : Int) = if lo f m ≤ (i : Int) ∧ (i : Int) ≤ lo t m then (if (stB m f t i).2 = 0 then ((i : Int), ((i + 1 : Nat) : Int)) else ((stB m f t i).1, ((i + 1 : Nat) : Int))) else stB m f t i := by
      unfold stB
      generalize lo f m = x
      generalize lo t m = y
      simp only [mx_eq, mn_eq]
      by_cases c1 : x < 0 <;> by_cases c2 : y < (i : Int) - 1 <;> by_cases c3 : y < ((i + 1 : Nat) : Int) - 1 <;> by_cases c4 : x ≤ (i : Int) ∧ (i : Int) ≤ y
      all_goals
        simp only [c1, c2, c3, c4, if_true, if_false]
        try omega
        repeat' split
        all_goals first
          | rfl
          | omega
          | (simp only [Prod.mk.injEq]; omega)
          | (refine Prod.ext ?_ ?_ <;> first | rfl | (simp only at *; omega))
          | (exfalso; simp only at *; omega)
          | exact absurd (And.intro trivial trivial) (by assumption)
    generalize hst : stB m f t i = st at *
    obtain ⟨a, b⟩ := st
    refine Ev.step (fun n => part_l0 m f t a b i (by omega) (by omega) hm1 n) ?_
    by_cases hin : lo f m ≤ (i : Int) ∧ (i : Int) ≤ lo t m
    · rw [decide_eq_true hin]
      rw [if_pos hin] at key
      simp only at key
      by_cases hb : b = 0
      · rw [if_pos hb] at key
        rw [key] at ih'
        refine Ev.step (f := fun n => tipstaffref01_Part.j3 n m f t a b i true true) (fun n => ?_) (Ev.step (f := fun n => tipstaffref01_Part.l0 n m f t i ((i + 1 : Nat) : Int) ((i + 1 : Nat) : Int)) (fun n => ?_) ih')
        · simp only [tipstaffref01_Part.j2, if_true]
          rw [show (b == 0) = true from by simp [hb]]
        · simp only [tipstaffref01_Part.j3, if_true, hw]
      · rw [if_neg hb] at key
        rw [key] at ih'
        refine Ev.step (f := fun n => tipstaffref01_Part.j3 n m f t a b i true false) (fun n => ?_) (Ev.step (f := fun n => tipstaffref01_Part.l0 n m f t a ((i + 1 : Nat) : Int) ((i + 1 : Nat) : Int)) (fun n => ?_) ih')
        · simp only [tipstaffref01_Part.j2, if_true]
          rw [show (b == 0) = false from by simp [hb]]
        · simp only [tipstaffref01_Part.j3, if_true, Bool.false_eq_true, if_false, hw]
    · rw [decide_eq_false hin]
      rw [if_neg hin] at key
      rw [key] at ih'
      refine Ev.step (f := fun n => tipstaffref01_Part.j3 n m f t a b i false false) (fun n => ?_) (Ev.step (f := fun n => tipstaffref01_Part.l0 n m f t a b ((i + 1 : Nat) : Int)) (fun n => ?_) ih')
      · simp only [tipstaffref01_Part.j2, Bool.false_eq_true, if_false]
      · simp only [tipstaffref01_Part.j3, Bool.false_eq_true, if_false, hw]

theorem st_end (m f t : Int) (hm0 : 0 ≤ m) : (if mx (lo f m) 0 > mn (lo t m) (m - 1) then ((0 : Int), (0 : Int)) else (mx (lo f m) 0, mn (lo t m) (m - 1) + 1)) = stB m f t m := by
  unfold stB
  simp only [mx_eq, mn_eq]
  generalize lo f m = x
  generalize lo t m = y
  repeat' split
  all_goals first
    | rfl
    | omega
    | (refine Prod.ext ?_ ?_ <;> first | rfl | (simp only at *; omega))
theorem st_part (m f t : Int) (hm0 : 0 ≤ m) : partR m f t = ((stB m f t m).1, (stB m f t m).2, true) := by
  rw [← st_end m f t hm0]
  unfold partR
  split <;> rfl

/-- What Part answers. -/
def partB (m : Int) (a b : ByteArray) : Int × Int × Bool :=
  if (parseB a).2 = true ∧ (parseB b).2 = true then partR m (parseB a).1 (parseB b).1 else (0, 0, false)

theorem parse_i64 (s : ByteArray) : i64 (parseB s).1 := by
  rcases parse_cases s with ⟨v, h, _, h1, h2⟩ | h
  · rw [h]; exact ⟨h1, h2⟩
  · rw [h]; exact ⟨by omega, by omega⟩

theorem part_ev (m : Int) (a b : ByteArray) (hm0 : 0 ≤ m) (hm1 : m ≤ 100) (ha : a.size ≤ 60) (hb : b.size ≤ 60) : Ev (fun k => num_Part.f k m a b) (partB m a b) := by
  have pa := parse_i64 a
  have pb := parse_i64 b
  have e : ∀ k, num_Part.f k m a b = num_Part.j0 k m (parseB a).1 (parseB b).1 (!((parseB a).2 && (parseB b).2)) := fun k => by
    unfold num_Part.f
    rw [parse_f a (by omega), parse_f b (by omega)]
    simp only [Option.bind_some]
    cases h : (parseB a).2 <;> simp
  refine Ev.congr e ?_
  unfold partB
  cases h1 : (parseB a).2 <;> cases h2 : (parseB b).2
  case true.true =>
    rw [if_pos ⟨rfl, rfl⟩]
    exact part_j0 m _ _ hm0 hm1 pa pb
  all_goals
    simp only [Bool.false_eq_true, and_false, false_and, and_true, true_and, if_false]
    refine Ev.step (f := fun _ => some (0, 0, false)) (fun k => ?_) (Ev.now _)
    simp [num_Part.j0]

theorem ref_part_ev (m : Int) (a b : ByteArray) (hm0 : 0 ≤ m) (hm1 : m ≤ 100) (ha : a.size ≤ 60) (hb : b.size ≤ 60) : Ev (fun k => tipstaffref01_Part.f k m a b) (partB m a b) := by
  refine Ev.congr (f := fun k => (tipstaffref01_Parse.f k a).bind fun x => (tipstaffref01_Parse.f k b).bind fun y => tipstaffref01_Part.j0 k m x.1 y.1 (!(x.2 && y.2))) (fun k => ?_) (Ev.bind (ref_parse_ev a ha) (Ev.bind (ref_parse_ev b hb) ?_))
  · unfold tipstaffref01_Part.f
    cases tipstaffref01_Parse.f k a with
    | none => rfl
    | some x =>
      simp only [Option.bind_some]
      cases tipstaffref01_Parse.f k b with
      | none => rfl
      | some y =>
        simp only [Option.bind_some]
        cases h : x.2 <;> simp
  · unfold partB
    cases h1 : (parseB a).2 <;> cases h2 : (parseB b).2
    case true.true =>
      rw [if_pos ⟨rfl, rfl⟩, st_part m _ _ hm0]
      have hz : stB m (parseB a).1 (parseB b).1 0 = (0, 0) := by
        unfold stB
        rw [if_neg]
        rw [mx_eq, mn_eq]
        split <;> split <;> omega
      have h := part_run m (parseB a).1 (parseB b).1 hm0 hm1 _ 0 rfl (by omega)
      simp only [Int.ofNat_zero, Int.natCast_zero] at h
      refine Ev.step (f := fun k => tipstaffref01_Part.l0 k m (parseB a).1 (parseB b).1 0 0 0) (fun k => by simp [tipstaffref01_Part.j0]) ?_
      rw [hz] at h
      exact h
    all_goals
      simp only [Bool.false_eq_true, and_false, false_and, and_true, true_and, if_false]
      refine Ev.step (f := fun _ => some (0, 0, false)) (fun k => ?_) (Ev.now _)
      simp [tipstaffref01_Part.j0]

theorem part_0m1 (m : Int) (hm0 : 0 ≤ m) : partB m ⟨#[48]⟩ ⟨#[45, 49]⟩ = (0, m, true) := by
  have h0 : (⟨#[48]⟩ : ByteArray) = textB 0 := by unfold textB; rw [itoa0]
  have h1 : (⟨#[45, 49]⟩ : ByteArray) = textB (-1) := by
    unfold textB
    rw [show (-1 : Int) = -((1 : Nat) : Int) from rfl, itoa_negn 1 (by omega), dec_one 1 (by omega)]
    rfl
  unfold partB
  rw [h0, h1, parse_text 0 (by omega) (by omega), parse_text (-1) (by omega) (by omega), if_pos ⟨rfl, rfl⟩]
  have e1 : lo 0 m = 0 := by unfold lo; rw [if_neg (by omega)]
  have e2 : lo (-1) m = -1 + m := by unfold lo; rw [if_pos (by omega)]
  have e3 : mx 0 0 = 0 := rfl
  have e4 : mn (-1 + m) (m - 1) = m - 1 := by rw [mn_eq]; split <;> omega
  unfold partR
  simp only [e1, e2, e3, e4]
  by_cases h : (0 : Int) > m - 1
  · rw [if_pos h]
    have : m = 0 := by omega
    rw [this]
  · rw [if_neg h]
    refine Prod.ext rfl (Prod.ext ?_ rfl)
    simp only
    omega

theorem part_fits (m : Int) (a b : ByteArray) (hm0 : 0 ≤ m) : 0 ≤ (partB m a b).1 ∧ (partB m a b).1 ≤ (partB m a b).2.1 ∧ (partB m a b).2.1 ≤ m := by
  unfold partB
  split
  · unfold partR
    generalize lo (parseB a).1 m = x
    generalize lo (parseB b).1 m = y
    simp only [mx_eq, mn_eq]
    repeat' split
    all_goals simp only
    all_goals omega
  · exact ⟨by simp, by simp, by simp only; omega⟩

theorem NumParts (a b : ByteArray) (n : Int) (hn : (Lit.int .u8 n).wf = true) : ∃ k, tipstafflaw01_NumParts.f k a b n = some true := by
  have hn' : 0 ≤ n ∧ n ≤ 255 := by
    have e1 : IntKind.u8.min = 0 := rfl
    have e2 : IntKind.u8.max = 255 := rfl
    simp [Lit.wf, e1, e2] at hn
    exact hn
  have ha := short_size a
  have hb := short_size b
  obtain ⟨m, hm⟩ : ∃ m, m = Int.tmod (wrap64 n) 101 := ⟨_, rfl⟩
  have hm' : 0 ≤ m ∧ m ≤ 100 := by
    rw [hm, wrap_id (by unfold i64; omega), Int.tmod_eq_emod_of_nonneg (by omega)]
    omega
  obtain ⟨k1, h1⟩ := part_ev m (shortB a) (shortB b) hm'.1 hm'.2 ha hb
  obtain ⟨k2, h2⟩ := ref_part_ev m (shortB a) (shortB b) hm'.1 hm'.2 ha hb
  obtain ⟨k3, h3⟩ := part_ev m ⟨#[48]⟩ ⟨#[45, 49]⟩ hm'.1 hm'.2 (by decide) (by decide)
  refine ⟨k1 + k2 + k3, ?_⟩
  have g1 := h1 (k1 + k2 + k3) (by omega)
  have g2 := h2 (k1 + k2 + k3) (by omega)
  have g3 := h3 (k1 + k2 + k3) (by omega)
  simp only at g1 g2 g3
  have hf := part_fits m (shortB a) (shortB b) hm'.1
  unfold tipstafflaw01_NumParts.f
  rw [shown_true, short_f, short_f, ← hm]
  simp only [Option.bind_some]
  rw [g1, g2, g3, part_0m1 m hm'.1]
  simp [hf.1, hf.2.1, hf.2.2]
end Go.Proofs.YtccgjpfkepamfaaDoor.X
