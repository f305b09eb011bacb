/- The document's rule of a word is the program's. -/
import Derived.Test.YtencimfeipglaaaDoorPRul2
import Derived.KernelRfl
set_option linter.unusedVariables false
set_option linter.unusedSimpArgs false
namespace Go.Proofs.YtencimfeipglaaaDoor.X
open Go.RowKit Go.Lib Go.Proofs.YtencimfeipglaaaDoorW.PrintWords Go.Proofs.YtencimfeipglaaaDoorW.PrintMore

theorem ruleB_cases (s : ByteArray) : (∃ p ∈ words11, s = mkB p.1 ∧ ruleB s = p.2) ∨ ((∀ p ∈ words11, s.data.toList ≠ p.1) ∧ ruleB s = finR (readL s.data.toList)) := by
  unfold ruleB
  cases h : words11.lookup s.data.toList with
  | none =>
    refine .inr ⟨fun p hp e => ?_, rfl⟩
    have := List.lookup_eq_none_iff.1 h p hp
    rw [e] at this
    simp at this
  | some m =>
    obtain ⟨l1, l2, e, _⟩ := List.lookup_eq_some_iff.1 h
    exact .inl ⟨(s.data.toList, m), by rw [e]; simp, (mkB_data s).symm, rfl⟩
theorem ref_in : ∀ p ∈ words11, tipstaffref17_Parse.f 400 (mkB p.1) = some p.2 := by
  intro p hp
  simp only [words11, List.mem_cons, List.not_mem_nil, or_false] at hp
  rcases hp with rfl | rfl | rfl | rfl | rfl | rfl | rfl | rfl | rfl | rfl | rfl <;> kernel_rfl

def marksM : List ByteArray := [(⟨#[62]⟩ : ByteArray), (⟨#[35]⟩ : ByteArray), (⟨#[33]⟩ : ByteArray), (⟨#[43]⟩ : ByteArray), (⟨#[45]⟩ : ByteArray), (⟨#[126]⟩ : ByteArray), (⟨#[37, 82, 126]⟩ : ByteArray), (⟨#[37, 87, 126]⟩ : ByteArray), (⟨#[37, 82, 87, 126]⟩ : ByteArray), (⟨#[38]⟩ : ByteArray)]
theorem l0_skip (s : ByteArray) (i : Nat) (hi : i < 10) (m : ByteArray) (hm : rdOf ByteArray.empty marksM (i : Int) = m) (h : pre m.data.toList s.data.toList = false) {r : RT} (k : Ev (fun n => tipstaffref17_Parse.l0 n s marksM ((i + 1 : Nat) : Int)) r) :
    Ev (fun n => tipstaffref17_Parse.l0 n s marksM (i : Int)) r := by
  refine Ev.step (fun n => ?_) k
  simp only [tipstaffref17_Parse.l0]
  rw [if_pos (show (i : Int) < (marksM.length : Int) from (by show (i : Int) < ((10 : Nat) : Int); omega)), if_pos (by omega), hm, begins_f, h, if_neg Bool.false_ne_true, Option.bind_some, if_neg Bool.false_ne_true, w64 (by omega) (by omega)]
  rfl
theorem l0_end (s : ByteArray) : Ev (fun n => tipstaffref17_Parse.l0 n s marksM ((10 : Nat) : Int)) zeroR := by
  refine Ev.step (f := fun _ => some zeroR) (fun n => ?_) (Ev.now _)
  simp only [tipstaffref17_Parse.l0]
  rw [if_neg (show ¬ ((10 : Nat) : Int) < (marksM.length : Int) from (by show ¬ ((10 : Nat) : Int) < ((10 : Nat) : Int); omega))]
  rfl
/-- What stands behind a mark that fits. -/
def behind (n : Nat) (i : Nat) (x m : ByteArray) : Option RT :=
  if m.data.toList = [62] then some (5, x, false, false, 0, true)
  else if m.data.toList = [35] then tipstaffref17_Parse.j1 n marksM (i : Int) x m (m.data.toList == [35]) else tipstaffref17_Parse.j1 n marksM (i : Int) x m (m.data.toList == [33])
theorem l0_hit (s : ByteArray) (i : Nat) (hi : i < 10) (m : ByteArray) (hm : rdOf ByteArray.empty marksM (i : Int) = m) (h : pre m.data.toList s.data.toList = true) {r : RT} (k : Ev (fun n => behind n i (mkB (s.data.toList.drop m.size)) m) r) :
    Ev (fun n => tipstaffref17_Parse.l0 n s marksM (i : Int)) r := by
  refine Ev.step (fun n => ?_) k
  simp only [tipstaffref17_Parse.l0]
  rw [if_pos (show (i : Int) < (marksM.length : Int) from (by show (i : Int) < ((10 : Nat) : Int); omega)), if_pos (by omega), hm, begins_f, h, if_pos rfl, Option.bind_some, if_pos rfl, toList_data]
  rfl
theorem hit62 (x : ByteArray) : Ev (fun n => behind n 0 x ⟨#[62]⟩) (finR (5, x, false, false, 0, true)) := Ev.congr (fun n => by kernel_rfl) (Ev.now _)
theorem pat_ev (k : Int) (x : ByteArray) (hx : x.size ≤ 1000) (a b : Bool) : Ev (fun n => tipstaffref17_pattern.f n k x a b) (finR (k, x, a, b, 0, wordB x)) := by
  unfold tipstaffref17_pattern.f
  refine Ev.bind (ref_word_ev x hx) (Ev.congr (fun n => ?_) (Ev.now _))
  unfold finR
  cases wordB x <;> rfl
theorem hit35 (x : ByteArray) (hx : x.size ≤ 1000) : Ev (fun n => behind n 1 x ⟨#[35]⟩) (finR (6, x, false, false, 0, rightB x)) := by
  refine Ev.congr (f := fun n => tipstaffref17_Parse.j1 n marksM (1 : Int) x ⟨#[35]⟩ true) (fun n => by kernel_rfl) (Ev.step (f := fun n => (tipstaffref03_Right.f n x).bind fun t => if t = true then some (6, x, false, false, 0, true) else some zeroR) (fun n => ?_) (Ev.bind (right2_ev x hx) (Ev.congr (fun n => ?_) (Ev.now _))))
  · simp only [tipstaffref17_Parse.j1]
    kernel_rfl
  · unfold finR
    cases rightB x <;> rfl
theorem hit33 (x : ByteArray) (hx : x.size ≤ 1000) : Ev (fun n => behind n 2 x ⟨#[33]⟩) (finR (7, x, false, false, 0, rightB x)) := by
  refine Ev.congr (f := fun n => tipstaffref17_Parse.j1 n marksM (2 : Int) x ⟨#[33]⟩ true) (fun n => by kernel_rfl) (Ev.step (f := fun n => (tipstaffref03_Right.f n x).bind fun t => if t = true then some (7, x, false, false, 0, true) else some zeroR) (fun n => ?_) (Ev.bind (right2_ev x hx) (Ev.congr (fun n => ?_) (Ev.now _))))
  · simp only [tipstaffref17_Parse.j1]
    kernel_rfl
  · unfold finR
    cases rightB x <;> rfl
theorem hit43 (x : ByteArray) (hx : x.size ≤ 1000) : Ev (fun n => behind n 3 x ⟨#[43]⟩) (finR (8, ⟨#[]⟩, false, false, (maskB x).1, (maskB x).2)) := by
  refine Ev.congr (f := fun n => tipstaffref17_Parse.j1 n marksM (3 : Int) x ⟨#[43]⟩ false) (fun n => by kernel_rfl) (Ev.step (f := fun n => tipstaffref17_Parse.j2 n marksM (3 : Int) x ⟨#[43]⟩ true) (fun n => by kernel_rfl) (Ev.step (f := fun n => (tipstaffref17_mask.f n x).bind fun b => if b.2 = true then some (8, (⟨#[]⟩ : ByteArray), false, false, b.1, true) else some zeroR) (fun n => ?_) (Ev.bind (mask2_ev x hx) (Ev.congr (fun n => ?_) (Ev.now _)))))
  · simp only [tipstaffref17_Parse.j2]
    kernel_rfl
  · unfold finR
    obtain ⟨a, b⟩ := maskB x
    cases b <;> rfl
theorem hit45 (x : ByteArray) (hx : x.size ≤ 1000) : Ev (fun n => behind n 4 x ⟨#[45]⟩) (finR (9, ⟨#[]⟩, false, false, (maskB x).1, (maskB x).2)) := by
  refine Ev.congr (f := fun n => tipstaffref17_Parse.j1 n marksM (4 : Int) x ⟨#[45]⟩ false) (fun n => by kernel_rfl) (Ev.step (f := fun n => tipstaffref17_Parse.j2 n marksM (4 : Int) x ⟨#[45]⟩ true) (fun n => by kernel_rfl) (Ev.step (f := fun n => (tipstaffref17_mask.f n x).bind fun b => if b.2 = true then some (9, (⟨#[]⟩ : ByteArray), false, false, b.1, true) else some zeroR) (fun n => ?_) (Ev.bind (mask2_ev x hx) (Ev.congr (fun n => ?_) (Ev.now _)))))
  · simp only [tipstaffref17_Parse.j2]
    kernel_rfl
  · unfold finR
    obtain ⟨a, b⟩ := maskB x
    cases b <;> rfl
theorem hit126 (x : ByteArray) (hx : x.size ≤ 1000) : Ev (fun n => behind n 5 x ⟨#[126]⟩) (finR (10, x, true, true, 0, wordB x)) := by
  refine Ev.congr (f := fun n => tipstaffref17_Parse.j1 n marksM (5 : Int) x ⟨#[126]⟩ false) (fun n => by kernel_rfl) (Ev.step (f := fun n => tipstaffref17_Parse.j2 n marksM (5 : Int) x ⟨#[126]⟩ false) (fun n => by kernel_rfl) (Ev.step (f := fun n => (tipstaffref17_pattern.f n 10 x true true).bind fun b => some b) (fun n => by kernel_rfl) (Ev.bind (pat_ev 10 x hx true true) (Ev.now _))))
theorem hitR (x : ByteArray) (hx : x.size ≤ 1000) : Ev (fun n => behind n 6 x ⟨#[37, 82, 126]⟩) (finR (10, x, true, false, 0, wordB x)) := by
  refine Ev.congr (f := fun n => tipstaffref17_Parse.j1 n marksM (6 : Int) x ⟨#[37, 82, 126]⟩ false) (fun n => by kernel_rfl) (Ev.step (f := fun n => tipstaffref17_Parse.j2 n marksM (6 : Int) x ⟨#[37, 82, 126]⟩ false) (fun n => by kernel_rfl) (Ev.step (f := fun n => (tipstaffref17_pattern.f n 10 x true false).bind fun b => some b) (fun n => by kernel_rfl) (Ev.bind (pat_ev 10 x hx true false) (Ev.now _))))
theorem hitW (x : ByteArray) (hx : x.size ≤ 1000) : Ev (fun n => behind n 7 x ⟨#[37, 87, 126]⟩) (finR (10, x, false, true, 0, wordB x)) := by
  refine Ev.congr (f := fun n => tipstaffref17_Parse.j1 n marksM (7 : Int) x ⟨#[37, 87, 126]⟩ false) (fun n => by kernel_rfl) (Ev.step (f := fun n => tipstaffref17_Parse.j2 n marksM (7 : Int) x ⟨#[37, 87, 126]⟩ false) (fun n => by kernel_rfl) (Ev.step (f := fun n => (tipstaffref17_pattern.f n 10 x false true).bind fun b => some b) (fun n => by kernel_rfl) (Ev.bind (pat_ev 10 x hx false true) (Ev.now _))))
theorem hitRW (x : ByteArray) (hx : x.size ≤ 1000) : Ev (fun n => behind n 8 x ⟨#[37, 82, 87, 126]⟩) (finR (10, x, true, true, 0, wordB x)) := by
  refine Ev.congr (f := fun n => tipstaffref17_Parse.j1 n marksM (8 : Int) x ⟨#[37, 82, 87, 126]⟩ false) (fun n => by kernel_rfl) (Ev.step (f := fun n => tipstaffref17_Parse.j2 n marksM (8 : Int) x ⟨#[37, 82, 87, 126]⟩ false) (fun n => by kernel_rfl) (Ev.step (f := fun n => (tipstaffref17_pattern.f n 10 x true true).bind fun b => some b) (fun n => by kernel_rfl) (Ev.bind (pat_ev 10 x hx true true) (Ev.now _))))
theorem hit38 (x : ByteArray) (hx : x.size ≤ 1000) : Ev (fun n => behind n 9 x ⟨#[38]⟩) (finR (12, x, false, false, 0, wordB x)) := by
  refine Ev.congr (f := fun n => tipstaffref17_Parse.j1 n marksM (9 : Int) x ⟨#[38]⟩ false) (fun n => by kernel_rfl) (Ev.step (f := fun n => tipstaffref17_Parse.j2 n marksM (9 : Int) x ⟨#[38]⟩ false) (fun n => by kernel_rfl) (Ev.step (f := fun n => (tipstaffref17_pattern.f n 12 x false false).bind fun b => some b) (fun n => by kernel_rfl) (Ev.bind (pat_ev 12 x hx false false) (Ev.now _))))

theorem preC (c d : UInt8) (m r : List UInt8) : pre (c :: m) (d :: r) = (c == d && pre m r) := rfl
theorem preN (m : List UInt8) : pre [] m = true := rfl
theorem marks_ev (s : ByteArray) (hs : s.size ≤ 1000) : Ev (fun n => tipstaffref17_Parse.l0 n s marksM ((0 : Nat) : Int)) (finR (readL s.data.toList)) := by
  cases hL : s.data.toList with
  | nil =>
    have hp : ∀ c m, pre (c :: m) s.data.toList = false := by intro c m; rw [hL]; rfl
    rw [show finR (readL []) = zeroR from rfl]
    refine l0_skip s 0 (by decide) ⟨#[62]⟩ rfl (hp _ _) ?_
    refine l0_skip s 1 (by decide) ⟨#[35]⟩ rfl (hp _ _) ?_
    refine l0_skip s 2 (by decide) ⟨#[33]⟩ rfl (hp _ _) ?_
    refine l0_skip s 3 (by decide) ⟨#[43]⟩ rfl (hp _ _) ?_
    refine l0_skip s 4 (by decide) ⟨#[45]⟩ rfl (hp _ _) ?_
    refine l0_skip s 5 (by decide) ⟨#[126]⟩ rfl (hp _ _) ?_
    refine l0_skip s 6 (by decide) ⟨#[37, 82, 126]⟩ rfl (hp _ _) ?_
    refine l0_skip s 7 (by decide) ⟨#[37, 87, 126]⟩ rfl (hp _ _) ?_
    refine l0_skip s 8 (by decide) ⟨#[37, 82, 87, 126]⟩ rfl (hp _ _) ?_
    refine l0_skip s 9 (by decide) ⟨#[38]⟩ rfl (hp _ _) ?_
    exact l0_end s
  | cons c r =>
    have hrl : r.length ≤ 1000 := by have := size_data s; rw [hL] at this; simp at this; omega
    have hr : (mkB r).size ≤ 1000 := by rw [mkB_size]; exact hrl
    have hd : mkB (s.data.toList.drop 1) = mkB r := by rw [hL]; rfl
    have hp : ∀ d m, d ≠ c → pre (d :: m) s.data.toList = false := by intro d m h; rw [hL, preC, beq_eq_false_iff_ne.2 h]; rfl
    have hq : pre [c] s.data.toList = true := by rw [hL, preC, preN, beq_self_eq_true]; rfl
    simp only [readL]
    by_cases h62 : c = 62
    · rw [if_pos h62]
      subst h62
      have hh := l0_hit s 0 (by decide) ⟨#[62]⟩ rfl hq (hit62 _)
      rw [show (⟨#[62]⟩ : ByteArray).size = 1 from rfl, hd] at hh
      exact hh
    rw [if_neg h62]
    by_cases h35 : c = 35
    · rw [if_pos h35]
      subst h35
      refine l0_skip s 0 (by decide) ⟨#[62]⟩ rfl (hp _ _ (by decide)) ?_
      have hh := l0_hit s 1 (by decide) ⟨#[35]⟩ rfl hq (hit35 _ (by show (mkB (s.data.toList.drop 1)).size ≤ 1000; rw [hd]; exact hr))
      rw [show (⟨#[35]⟩ : ByteArray).size = 1 from rfl, hd] at hh
      exact hh
    rw [if_neg h35]
    by_cases h33 : c = 33
    · rw [if_pos h33]
      subst h33
      refine l0_skip s 0 (by decide) ⟨#[62]⟩ rfl (hp _ _ (by decide)) ?_
      refine l0_skip s 1 (by decide) ⟨#[35]⟩ rfl (hp _ _ (by decide)) ?_
      have hh := l0_hit s 2 (by decide) ⟨#[33]⟩ rfl hq (hit33 _ (by show (mkB (s.data.toList.drop 1)).size ≤ 1000; rw [hd]; exact hr))
      rw [show (⟨#[33]⟩ : ByteArray).size = 1 from rfl, hd] at hh
      exact hh
    rw [if_neg h33]
    by_cases h43 : c = 43
    · rw [if_pos h43]
      subst h43
      refine l0_skip s 0 (by decide) ⟨#[62]⟩ rfl (hp _ _ (by decide)) ?_
      refine l0_skip s 1 (by decide) ⟨#[35]⟩ rfl (hp _ _ (by decide)) ?_
      refine l0_skip s 2 (by decide) ⟨#[33]⟩ rfl (hp _ _ (by decide)) ?_
      have hh := l0_hit s 3 (by decide) ⟨#[43]⟩ rfl hq (hit43 _ (by show (mkB (s.data.toList.drop 1)).size ≤ 1000; rw [hd]; exact hr))
      rw [show (⟨#[43]⟩ : ByteArray).size = 1 from rfl, hd] at hh
      exact hh
    rw [if_neg h43]
    by_cases h45 : c = 45
    · rw [if_pos h45]
      subst h45
      refine l0_skip s 0 (by decide) ⟨#[62]⟩ rfl (hp _ _ (by decide)) ?_
      refine l0_skip s 1 (by decide) ⟨#[35]⟩ rfl (hp _ _ (by decide)) ?_
      refine l0_skip s 2 (by decide) ⟨#[33]⟩ rfl (hp _ _ (by decide)) ?_
      refine l0_skip s 3 (by decide) ⟨#[43]⟩ rfl (hp _ _ (by decide)) ?_
      have hh := l0_hit s 4 (by decide) ⟨#[45]⟩ rfl hq (hit45 _ (by show (mkB (s.data.toList.drop 1)).size ≤ 1000; rw [hd]; exact hr))
      rw [show (⟨#[45]⟩ : ByteArray).size = 1 from rfl, hd] at hh
      exact hh
    rw [if_neg h45]
    by_cases h126 : c = 126
    · rw [if_pos h126]
      subst h126
      refine l0_skip s 0 (by decide) ⟨#[62]⟩ rfl (hp _ _ (by decide)) ?_
      refine l0_skip s 1 (by decide) ⟨#[35]⟩ rfl (hp _ _ (by decide)) ?_
      refine l0_skip s 2 (by decide) ⟨#[33]⟩ rfl (hp _ _ (by decide)) ?_
      refine l0_skip s 3 (by decide) ⟨#[43]⟩ rfl (hp _ _ (by decide)) ?_
      refine l0_skip s 4 (by decide) ⟨#[45]⟩ rfl (hp _ _ (by decide)) ?_
      have hh := l0_hit s 5 (by decide) ⟨#[126]⟩ rfl hq (hit126 _ (by show (mkB (s.data.toList.drop 1)).size ≤ 1000; rw [hd]; exact hr))
      rw [show (⟨#[126]⟩ : ByteArray).size = 1 from rfl, hd] at hh
      exact hh
    rw [if_neg h126]
    by_cases h38 : c = 38
    · rw [if_pos h38]
      subst h38
      refine l0_skip s 0 (by decide) ⟨#[62]⟩ rfl (hp _ _ (by decide)) ?_
      refine l0_skip s 1 (by decide) ⟨#[35]⟩ rfl (hp _ _ (by decide)) ?_
      refine l0_skip s 2 (by decide) ⟨#[33]⟩ rfl (hp _ _ (by decide)) ?_
      refine l0_skip s 3 (by decide) ⟨#[43]⟩ rfl (hp _ _ (by decide)) ?_
      refine l0_skip s 4 (by decide) ⟨#[45]⟩ rfl (hp _ _ (by decide)) ?_
      refine l0_skip s 5 (by decide) ⟨#[126]⟩ rfl (hp _ _ (by decide)) ?_
      refine l0_skip s 6 (by decide) ⟨#[37, 82, 126]⟩ rfl (hp _ _ (by decide)) ?_
      refine l0_skip s 7 (by decide) ⟨#[37, 87, 126]⟩ rfl (hp _ _ (by decide)) ?_
      refine l0_skip s 8 (by decide) ⟨#[37, 82, 87, 126]⟩ rfl (hp _ _ (by decide)) ?_
      have hh := l0_hit s 9 (by decide) ⟨#[38]⟩ rfl hq (hit38 _ (by show (mkB (s.data.toList.drop 1)).size ≤ 1000; rw [hd]; exact hr))
      rw [show (⟨#[38]⟩ : ByteArray).size = 1 from rfl, hd] at hh
      exact hh
    rw [if_neg h38]
    by_cases h37 : c = 37
    · rw [if_pos h37]
      subst h37
      refine l0_skip s 0 (by decide) ⟨#[62]⟩ rfl (hp _ _ (by decide)) ?_
      refine l0_skip s 1 (by decide) ⟨#[35]⟩ rfl (hp _ _ (by decide)) ?_
      refine l0_skip s 2 (by decide) ⟨#[33]⟩ rfl (hp _ _ (by decide)) ?_
      refine l0_skip s 3 (by decide) ⟨#[43]⟩ rfl (hp _ _ (by decide)) ?_
      refine l0_skip s 4 (by decide) ⟨#[45]⟩ rfl (hp _ _ (by decide)) ?_
      refine l0_skip s 5 (by decide) ⟨#[126]⟩ rfl (hp _ _ (by decide)) ?_
      have hq : ∀ m, pre (37 :: m) s.data.toList = pre m r := by intro m; rw [hL, preC]; rfl
      cases h1 : pre [82, 126] r with
      | true =>
        obtain ⟨t, rfl⟩ := List.prefix_iff_exists_eq_append.1 (List.isPrefixOf_iff_prefix.1 h1)
        have hh := l0_hit s 6 (by decide) ⟨#[37, 82, 126]⟩ rfl ((hq _).trans h1) (hitR _ (by rw [hL]; show (mkB t).size ≤ 1000; rw [mkB_size]; simp at hrl; omega))
        rw [show s.data.toList.drop (⟨#[37, 82, 126]⟩ : ByteArray).size = t by rw [hL]; rfl] at hh
        rw [show ([82, 126] ++ t : List UInt8) = 82 :: 126 :: t from rfl, pct_R]
        exact hh
      | false =>
        refine l0_skip s 6 (by decide) ⟨#[37, 82, 126]⟩ rfl ((hq _).trans h1) ?_
        cases h2 : pre [87, 126] r with
        | true =>
          obtain ⟨t, rfl⟩ := List.prefix_iff_exists_eq_append.1 (List.isPrefixOf_iff_prefix.1 h2)
          have hh := l0_hit s 7 (by decide) ⟨#[37, 87, 126]⟩ rfl ((hq _).trans h2) (hitW _ (by rw [hL]; show (mkB t).size ≤ 1000; rw [mkB_size]; simp at hrl; omega))
          rw [show s.data.toList.drop (⟨#[37, 87, 126]⟩ : ByteArray).size = t by rw [hL]; rfl] at hh
          rw [show ([87, 126] ++ t : List UInt8) = 87 :: 126 :: t from rfl, pct_W]
          exact hh
        | false =>
          refine l0_skip s 7 (by decide) ⟨#[37, 87, 126]⟩ rfl ((hq _).trans h2) ?_
          cases h3 : pre [82, 87, 126] r with
          | true =>
            obtain ⟨t, rfl⟩ := List.prefix_iff_exists_eq_append.1 (List.isPrefixOf_iff_prefix.1 h3)
            have hh := l0_hit s 8 (by decide) ⟨#[37, 82, 87, 126]⟩ rfl ((hq _).trans h3) (hitRW _ (by rw [hL]; show (mkB t).size ≤ 1000; rw [mkB_size]; simp at hrl; omega))
            rw [show s.data.toList.drop (⟨#[37, 82, 87, 126]⟩ : ByteArray).size = t by rw [hL]; rfl] at hh
            rw [show ([82, 87, 126] ++ t : List UInt8) = 82 :: 87 :: 126 :: t from rfl, pct_RW]
            exact hh
          | false =>
            refine l0_skip s 8 (by decide) ⟨#[37, 82, 87, 126]⟩ rfl ((hq _).trans h3) ?_
            refine l0_skip s 9 (by decide) ⟨#[38]⟩ rfl (hp _ _ (by decide)) ?_
            rw [pct_no r h1 h2 h3]
            exact l0_end s
    rw [if_neg h37]
    rw [show finR zeroR = zeroR from rfl]
    refine l0_skip s 0 (by decide) ⟨#[62]⟩ rfl (hp _ _ (Ne.symm h62)) ?_
    refine l0_skip s 1 (by decide) ⟨#[35]⟩ rfl (hp _ _ (Ne.symm h35)) ?_
    refine l0_skip s 2 (by decide) ⟨#[33]⟩ rfl (hp _ _ (Ne.symm h33)) ?_
    refine l0_skip s 3 (by decide) ⟨#[43]⟩ rfl (hp _ _ (Ne.symm h43)) ?_
    refine l0_skip s 4 (by decide) ⟨#[45]⟩ rfl (hp _ _ (Ne.symm h45)) ?_
    refine l0_skip s 5 (by decide) ⟨#[126]⟩ rfl (hp _ _ (Ne.symm h126)) ?_
    refine l0_skip s 6 (by decide) ⟨#[37, 82, 126]⟩ rfl (hp _ _ (Ne.symm h37)) ?_
    refine l0_skip s 7 (by decide) ⟨#[37, 87, 126]⟩ rfl (hp _ _ (Ne.symm h37)) ?_
    refine l0_skip s 8 (by decide) ⟨#[37, 82, 87, 126]⟩ rfl (hp _ _ (Ne.symm h37)) ?_
    refine l0_skip s 9 (by decide) ⟨#[38]⟩ rfl (hp _ _ (Ne.symm h38)) ?_
    exact l0_end s

theorem other_f (s : ByteArray) (h : ∀ p ∈ words11, s.data.toList ≠ p.1) : tipstaffref17_other.f s = some s := by
  unfold tipstaffref17_other.f
  rw [toList_data]
  rw [if_neg (h ([97, 108, 108, 99, 111, 109, 109, 97, 110, 100, 115], (8, ⟨#[]⟩, false, false, 72057594037927935, true)) (by simp [words11])), if_neg (h ([110, 111, 99, 111, 109, 109, 97, 110, 100, 115], (9, ⟨#[]⟩, false, false, 72057594037927935, true)) (by simp [words11])), if_neg (h ([97, 108, 108, 107, 101, 121, 115], (10, ⟨#[42]⟩, true, true, 0, true)) (by simp [words11])), if_neg (h ([97, 108, 108, 99, 104, 97, 110, 110, 101, 108, 115], (12, ⟨#[42]⟩, false, false, 0, true)) (by simp [words11]))]
def plainM : List ByteArray := [(⟨#[111, 110]⟩ : ByteArray), (⟨#[111, 102, 102]⟩ : ByteArray), (⟨#[110, 111, 112, 97, 115, 115]⟩ : ByteArray), (⟨#[114, 101, 115, 101, 116, 112, 97, 115, 115]⟩ : ByteArray), (⟨#[114, 101, 115, 101, 116, 107, 101, 121, 115]⟩ : ByteArray), (⟨#[114, 101, 115, 101, 116, 99, 104, 97, 110, 110, 101, 108, 115]⟩ : ByteArray), (⟨#[114, 101, 115, 101, 116]⟩ : ByteArray)]
theorem plain_in : ∀ x ∈ plainM, ∃ p ∈ words11, x.data.toList = p.1 := by decide +kernel
theorem plain_ev (s : ByteArray) (h : ∀ p ∈ words11, s.data.toList ≠ p.1) : Ev (fun n => tipstaffref17_plain.f n s) zeroR :=
  plain_run s plainM [1, 2, 3, 4, 11, 13, 14] (by decide) (fun x hx e => by
    rw [toList_data, toList_data] at e
    obtain ⟨p, hp, e2⟩ := plain_in x hx
    exact h p hp (e.symm.trans e2)) _ 0 rfl (by omega)
theorem refp_ev (s : ByteArray) (hs : s.size ≤ 1000) : Ev (fun n => tipstaffref17_Parse.f n s) (ruleB s) := by
  rcases ruleB_cases s with ⟨p, hp, rfl, hc⟩ | ⟨hn, hc⟩
  · rw [hc]
    exact Ev.of (tipstaffref17_Parse.mono _) (ref_in p hp)
  · rw [hc]
    refine Ev.congr (f := fun n => (tipstaffref17_plain.f n s).bind fun b => if b.2.2.2.2.2 = true then some (b.1, b.2.1, b.2.2.1, b.2.2.2.1, b.2.2.2.2.1, true) else tipstaffref17_Parse.l0 n s marksM 0) (fun n => ?_) (Ev.bind (plain_ev s hn) (Ev.congr (fun n => rfl) (marks_ev s hs)))
    unfold tipstaffref17_Parse.f
    rw [other_f s hn, Option.bind_some]
    rfl
end Go.Proofs.YtencimfeipglaaaDoor.X
