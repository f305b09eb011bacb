/- Plain: what the document's Put, PutPair, PutMark and Fit give: values that may be. -/
import Derived.Test.YtbbgiedfkklojaaPRight
import Derived.Test.YtbbgiedfkklojaaXx26
import Derived.Test.YtbbgiedfkklojaaXx26
import Derived.Test.YtbbgiedfkklojaaXx26
import Derived.Test.YtbbgiedfkklojaaXx29h
set_option linter.unusedVariables false
set_option linter.unusedSimpArgs false
namespace Go.Proofs.Ytbbgiedfkklojaa.X
open Go.RowKit Go.Lib Go.Proofs.YtbbgiedfkklojaaW.PrintWords Go.Proofs.YtbbgiedfkklojaaW.PrintMore

section
variable {α : Type} (big same : α → Bool) (m : α)
def ins1 : Bool → List α → List α
  | put, [] => if put = true then [] else [m]
  | put, x :: r => if (!put && big x) = true then m :: ((if same x = true then [] else [x]) ++ ins1 true r) else (if same x = true then [] else [x]) ++ ins1 put r
def ins2 : Bool → List α → List α
  | put, [] => if put = true then [] else [m]
  | put, x :: r => if same x = true then ins2 put r else (if (!put && big x) = true then m :: x :: ins2 true r else x :: ins2 put r)
theorem ins1_true : ∀ l : List α, ins1 big same m true l = l.filter (fun x => !same x)
  | [] => rfl
  | x :: r => by
    rw [ins1, ins1_true r]
    cases h : same x <;> simp [h]
theorem ins2_true : ∀ l : List α, ins2 big same m true l = l.filter (fun x => !same x)
  | [] => rfl
  | x :: r => by
    rw [ins2, ins2_true r]
    cases h : same x <;> simp [h]
theorem ins1_mem : ∀ l : List α, ∀ z ∈ ins1 big same m false l, z = m ∨ z ∈ l
  | [], z, hz => by simp [ins1] at hz; exact .inl hz
  | x :: r, z, hz => by
    rw [ins1, ins1_true] at hz
    split at hz
    · rcases List.mem_cons.1 hz with h | h
      · exact .inl h
      · rcases List.mem_append.1 h with h | h
        · split at h
          · cases h
          · rw [List.mem_singleton.1 h]; exact .inr List.mem_cons_self
        · exact .inr (List.mem_cons_of_mem _ (List.mem_filter.1 h).1)
    · rcases List.mem_append.1 hz with h | h
      · split at h
        · cases h
        · rw [List.mem_singleton.1 h]; exact .inr List.mem_cons_self
      · rcases ins1_mem r z h with h | h
        · exact .inl h
        · exact .inr (List.mem_cons_of_mem _ h)
theorem ins2_mem : ∀ l : List α, ∀ z ∈ ins2 big same m false l, z = m ∨ z ∈ l
  | [], z, hz => by simp [ins2] at hz; exact .inl hz
  | x :: r, z, hz => by
    rw [ins2, ins2_true] at hz
    split at hz
    · rcases ins2_mem r z hz with h | h
      · exact .inl h
      · exact .inr (List.mem_cons_of_mem _ h)
    · split at hz
      · rcases List.mem_cons.1 hz with h | h
        · exact .inl h
        · rcases List.mem_cons.1 h with h | h
          · rw [h]; exact .inr List.mem_cons_self
          · exact .inr (List.mem_cons_of_mem _ (List.mem_filter.1 h).1)
      · rcases List.mem_cons.1 hz with h | h
        · rw [h]; exact .inr List.mem_cons_self
        · rcases ins2_mem r z h with h | h
          · exact .inl h
          · exact .inr (List.mem_cons_of_mem _ h)
theorem ins1_len : ∀ (put : Bool) (l : List α), (ins1 big same m put l).length ≤ l.length + 1
  | true, l => by rw [ins1_true]; exact Nat.le_succ_of_le (List.length_filter_le _ _)
  | false, [] => by simp [ins1]
  | false, x :: r => by
    rw [ins1, ins1_true]
    have h1 := List.length_filter_le (fun x => !same x) r
    have h2 := ins1_len false r
    split
    · simp only [List.length_cons, List.length_append]
      split <;> simp <;> omega
    · simp only [List.length_append]
      split <;> simp <;> omega
theorem ins2_len : ∀ (put : Bool) (l : List α), (ins2 big same m put l).length ≤ l.length + 1
  | true, l => by rw [ins2_true]; exact Nat.le_succ_of_le (List.length_filter_le _ _)
  | false, [] => by simp [ins2]
  | false, x :: r => by
    rw [ins2, ins2_true]
    have h1 := List.length_filter_le (fun x => !same x) r
    have h2 := ins2_len false r
    split
    · simp only [List.length_cons]; omega
    · split
      · simp only [List.length_cons]; omega
      · simp only [List.length_cons]; omega
variable (lt : α → α → Prop)
theorem ins1_pw (h1 : ∀ x, big x = false → lt x m ∧ same x = false) (h2 : ∀ x, big x = true → same x = false → lt m x) (h4 : ∀ x y, big x = true → lt x y → same y = false → lt m y) :
    ∀ l : List α, l.Pairwise lt → (ins1 big same m false l).Pairwise lt
  | [], _ => by simp [ins1]
  | x :: r, h => by
    rw [List.pairwise_cons] at h
    have ih := ins1_pw h1 h2 h4 r h.2
    cases hb : big x with
    | true =>
      have e : ins1 big same m false (x :: r) = m :: (x :: r).filter (fun x => !same x) := by
        rw [ins1, ins1_true, hb]
        cases hs : same x <;> simp [hs]
      rw [e, List.pairwise_cons]
      refine ⟨fun z hz => ?_, List.Pairwise.filter _ (List.pairwise_cons.2 h)⟩
      have hz2 := (List.mem_filter.1 hz).2
      have hz3 : same z = false := by simpa using hz2
      rcases List.mem_cons.1 (List.mem_filter.1 hz).1 with rfl | hz1
      · exact h2 _ hb hz3
      · exact h4 x z hb (h.1 z hz1) hz3
    | false =>
      obtain ⟨g1, g2⟩ := h1 x hb
      have e : ins1 big same m false (x :: r) = x :: ins1 big same m false r := by
        rw [ins1, hb, g2]; simp
      rw [e, List.pairwise_cons]
      refine ⟨fun z hz => ?_, ih⟩
      rcases ins1_mem big same m r z hz with rfl | hz
      · exact g1
      · exact h.1 z hz
theorem ins2_pw (h1 : ∀ x, same x = false → big x = false → lt x m) (h2 : ∀ x, same x = false → big x = true → lt m x) (h4 : ∀ x y, same x = false → big x = true → lt x y → same y = false → lt m y) :
    ∀ l : List α, l.Pairwise lt → (ins2 big same m false l).Pairwise lt
  | [], _ => by simp [ins2]
  | x :: r, h => by
    rw [List.pairwise_cons] at h
    have ih := ins2_pw h1 h2 h4 r h.2
    cases hs : same x with
    | true =>
      have e : ins2 big same m false (x :: r) = ins2 big same m false r := by rw [ins2, hs]; simp
      rw [e]; exact ih
    | false =>
      cases hb : big x with
      | true =>
        have e : ins2 big same m false (x :: r) = m :: (x :: r).filter (fun x => !same x) := by
          rw [ins2, ins2_true, hb, hs]; simp [hs]
        rw [e, List.pairwise_cons]
        refine ⟨fun z hz => ?_, List.Pairwise.filter _ (List.pairwise_cons.2 h)⟩
        have hz2 := (List.mem_filter.1 hz).2
        have hz3 : same z = false := by simpa using hz2
        rcases List.mem_cons.1 (List.mem_filter.1 hz).1 with rfl | hz1
        · exact h2 _ hs hb
        · exact h4 x z hs hb (h.1 z hz1) hz3
      | false =>
        have e : ins2 big same m false (x :: r) = x :: ins2 big same m false r := by
          rw [ins2, hb, hs]; simp
        rw [e, List.pairwise_cons]
        refine ⟨fun z hz => ?_, ih⟩
        rcases ins2_mem big same m r z hz with rfl | hz
        · exact h1 x hs hb
        · exact h.1 z hz
/-- The loop, told by its step. -/
theorem put_gen1 (L : Nat → List α → Bool → Nat → Option (List α)) (l : List α)
    (step : ∀ k i out put (h : i < l.length), out.length ≤ 2000 → L (k + 2) out put i = if (!put && big l[i]) = true then L k ((out ++ [m]) ++ (if same l[i] = true then [] else [l[i]])) true (i + 1) else L k (out ++ (if same l[i] = true then [] else [l[i]])) put (i + 1))
    (fin : ∀ k i out put, l.length ≤ i → out.length ≤ 2000 → L (k + 1) out put i = some (out ++ (if put = true then [] else [m]))) :
    ∀ (n k i : Nat) (out : List α) (put : Bool), i + n = l.length → out.length + 2 * n ≤ 2000 → L (k + 2 * n + 1) out put i = some (out ++ ins1 big same m put (l.drop i)) := by
  intro n
  induction n with
  | zero =>
    intro k i out put hi ho
    rw [Nat.mul_zero, Nat.add_zero, fin _ _ _ _ (by omega) (by omega), List.drop_eq_nil_of_le (by omega), ins1]
  | succ n ih =>
    intro k i out put hi ho
    have hil : i < l.length := by omega
    rw [show k + 2 * (n + 1) + 1 = (k + 2 * n + 1) + 2 by omega, step _ _ _ _ hil (by omega), List.drop_eq_getElem_cons hil, ins1]
    split
    · rw [ih k (i + 1) _ true (by omega) (by simp only [List.length_append, List.length_cons, List.length_nil]; split <;> simp <;> omega)]
      simp
    · rw [ih k (i + 1) _ put (by omega) (by simp only [List.length_append]; split <;> simp <;> omega)]
      simp
theorem put_gen2 (L : Nat → List α → Bool → Nat → Option (List α)) (l : List α)
    (step : ∀ k i out put (h : i < l.length), out.length ≤ 2000 → L (k + 1) out put i = if same l[i] = true then L k out put (i + 1) else (if (!put && big l[i]) = true then L k ((out ++ [m]) ++ [l[i]]) true (i + 1) else L k (out ++ [l[i]]) put (i + 1)))
    (fin : ∀ k i out put, l.length ≤ i → out.length ≤ 2000 → L (k + 1) out put i = some (out ++ (if put = true then [] else [m]))) :
    ∀ (n k i : Nat) (out : List α) (put : Bool), i + n = l.length → out.length + 2 * n ≤ 2000 → L (k + n + 1) out put i = some (out ++ ins2 big same m put (l.drop i)) := by
  intro n
  induction n with
  | zero =>
    intro k i out put hi ho
    rw [Nat.add_zero, fin _ _ _ _ (by omega) (by omega), List.drop_eq_nil_of_le (by omega), ins2]
  | succ n ih =>
    intro k i out put hi ho
    have hil : i < l.length := by omega
    rw [show k + (n + 1) + 1 = (k + n + 1) + 1 by omega, step _ _ _ _ hil (by omega), List.drop_eq_getElem_cons hil, ins2]
    split
    · exact ih k (i + 1) _ put (by omega) (by omega)
    · split
      · rw [ih k (i + 1) _ true (by omega) (by simp; omega)]
        simp
      · rw [ih k (i + 1) _ put (by omega) (by simp; omega)]
        simp
end

theorem wrap_succ (i : Nat) (h : i ≤ 1000000) : wrap64 ((i : Int) + 1) = ((i + 1 : Nat) : Int) := by unfold wrap64; omega

/-! texts -/
def bigS (s x : ByteArray) : Bool := !(Op.bytesLess x.toList s.toList)
def sameS (s x : ByteArray) : Bool := decide (x.toList = s.toList)
theorem put_f (k : Nat) (l : List ByteArray) (s : ByteArray) (hl : l.length ≤ 900) (hk : 2 * l.length + 1 ≤ k) : tipstaffref09_Put.f k l s = some (ins1 (bigS s) (sameS s) s false l) := by
  obtain ⟨j, rfl⟩ : ∃ j, k = j + 2 * l.length + 1 := ⟨k - 2 * l.length - 1, by omega⟩
  unfold tipstaffref09_Put.f
  have := put_gen1 (bigS s) (sameS s) s (fun k out put i => tipstaffref09_Put.l0 k l s out put (i : Int)) l (fun k i out put h ho => by
    have hr := rdOf_get l i h
    rw [tipstaffref09_Put.l0, if_pos (by omega)]
    have hJ : ∀ b out, out.length ≤ 2001 → tipstaffref09_Put.j1 (k + 1) l s out put (i : Int) b = if b = true then tipstaffref09_Put.l0 k l s ((out ++ [s]) ++ (if sameS s l[i] = true then [] else [l[i]])) true ((i + 1 : Nat) : Int) else tipstaffref09_Put.l0 k l s (out ++ (if sameS s l[i] = true then [] else [l[i]])) put ((i + 1 : Nat) : Int) := by
      intro b out ho
      rw [tipstaffref09_Put.j1, hr, wrap_succ i (by omega)]
      unfold sameS
      cases b with
      | true =>
        rw [if_pos rfl, if_pos rfl, if_pos (by omega)]
        simp only [Option.bind_some]
        rw [if_pos (by omega), if_pos (by omega)]
        by_cases he : l[i].toList = s.toList
        · rw [if_pos he, if_pos (decide_eq_true he), List.append_nil]
        · rw [if_neg he, if_pos (by simp; omega), if_neg (by simp [he])]
      | false =>
        rw [if_neg (show ¬ (false = true) by decide), if_neg (show ¬ (false = true) by decide), if_pos (by omega), if_pos (by omega)]
        by_cases he : l[i].toList = s.toList
        · rw [if_pos he, if_pos (decide_eq_true he), List.append_nil]
        · rw [if_neg he, if_pos (by omega), if_neg (by simp [he])]
    cases put with
    | true => rw [if_pos rfl, hJ _ _ (by omega)]; simp
    | false =>
      rw [if_neg (by decide), if_pos (by omega), hJ _ _ (by omega), hr]
      simp [bigS]) (fun k i out put h ho => by
    show tipstaffref09_Put.l0 (k + 1) l s out put (i : Int) = _
    rw [tipstaffref09_Put.l0, if_neg (by omega)]
    cases put with
    | true => simp
    | false => rw [if_neg (by decide), if_pos (by omega)]; simp) l.length j 0 [] false (by omega) (by simp; omega)
  simpa using this
theorem risesB_pw : ∀ l : List ByteArray, risesB l = true ↔ l.Pairwise (fun a b => ltB a b = true)
  | [] => by simp [risesB]
  | [a] => by simp [risesB]
  | a :: b :: r => by
    have ih := risesB_pw (b :: r)
    have e1 : risesB (a :: b :: r) = (ltB a b && risesB (b :: r)) := rfl
    rw [e1, Bool.and_eq_true, ih, List.pairwise_cons (a := a) (l := b :: r)]
    constructor
    · rintro ⟨h1, h2⟩
      refine ⟨fun x hx => ?_, h2⟩
      rcases List.mem_cons.1 hx with rfl | hx
      · exact h1
      · exact ltB_trans _ _ _ h1 ((List.pairwise_cons.1 h2).1 x hx)
    · rintro ⟨h1, h2⟩
      exact ⟨h1 b List.mem_cons_self, h2⟩
theorem bigS_false (s x : ByteArray) (h : bigS s x = false) : ltB x s = true ∧ sameS s x = false := by
  unfold bigS at h
  have h' : Op.bytesLess x.toList s.toList = true := by simpa using h
  refine ⟨h', ?_⟩
  unfold sameS
  refine decide_eq_false (fun e => ?_)
  rw [e, bytesLess_self] at h'
  cases h'
theorem bigS_true (s x : ByteArray) (h : bigS s x = true) (h2 : sameS s x = false) : ltB s x = true := by
  unfold bigS at h
  have h' : Op.bytesLess x.toList s.toList = false := by simpa using h
  unfold ltB
  cases hb : Op.bytesLess s.toList x.toList with
  | true => rfl
  | false =>
    have := bytesLess_total _ _ h' hb
    unfold sameS at h2
    rw [decide_eq_true this] at h2
    cases h2
theorem bigS_next (s x y : ByteArray) (h : bigS s x = true) (hxy : ltB x y = true) : ltB s y = true := by
  cases hs : sameS s x with
  | true =>
    have : x.toList = s.toList := of_decide_eq_true hs
    unfold ltB at *
    rw [← this]; exact hxy
  | false => exact ltB_trans _ _ _ (bigS_true s x h hs) hxy
theorem put_rises (l : List ByteArray) (s : ByteArray) (h : risesB l = true) : risesB (ins1 (bigS s) (sameS s) s false l) = true := by
  rw [risesB_pw] at *
  exact ins1_pw _ _ _ _ (fun x hx => bigS_false s x hx) (fun x hx h2 => bigS_true s x hx h2) (fun x y hx hxy _ => bigS_next s x y hx hxy) l h

/-! pairs -/
theorem putPair_f (k : Nat) (l : List SP) (s t : ByteArray) (hl : l.length ≤ 900) (hk : 2 * l.length + 1 ≤ k) : tipstaffref09_PutPair.f k l s t = some (ins1 (fun x : SP => bigS s x.f0) (fun x : SP => sameS s x.f0) (⟨s, t⟩ : SP) false l) := by
  obtain ⟨j, rfl⟩ : ∃ j, k = j + 2 * l.length + 1 := ⟨k - 2 * l.length - 1, by omega⟩
  unfold tipstaffref09_PutPair.f
  have := put_gen1 (fun x : SP => bigS s x.f0) (fun x : SP => sameS s x.f0) (⟨s, t⟩ : SP) (fun k out put i => tipstaffref09_PutPair.l0 k l out put (i : Int) s t) l (fun k i out put h ho => by
    have hr := rd_getPair l i h
    rw [tipstaffref09_PutPair.l0, if_pos (by omega)]
    have hJ : ∀ b out, out.length ≤ 2001 → tipstaffref09_PutPair.j1 (k + 1) l out put (i : Int) b s t = if b = true then tipstaffref09_PutPair.l0 k l ((out ++ [(⟨s, t⟩ : SP)]) ++ (if sameS s l[i].f0 = true then [] else [l[i]])) true ((i + 1 : Nat) : Int) s t else tipstaffref09_PutPair.l0 k l (out ++ (if sameS s l[i].f0 = true then [] else [l[i]])) put ((i + 1 : Nat) : Int) s t := by
      intro b out ho
      rw [tipstaffref09_PutPair.j1, hr, wrap_succ i (by omega)]
      unfold sameS
      cases b with
      | true =>
        rw [if_pos rfl, if_pos rfl, if_pos (by omega)]
        simp only [Option.bind_some]
        rw [if_pos (by omega), if_pos (by omega)]
        by_cases he : l[i].f0.toList = s.toList
        · rw [if_pos he, if_pos (decide_eq_true he), List.append_nil]
        · rw [if_neg he, if_pos (by simp; omega), if_neg (by simp [he])]
      | false =>
        rw [if_neg (show ¬ (false = true) by decide), if_neg (show ¬ (false = true) by decide), if_pos (by omega), if_pos (by omega)]
        by_cases he : l[i].f0.toList = s.toList
        · rw [if_pos he, if_pos (decide_eq_true he), List.append_nil]
        · rw [if_neg he, if_pos (by omega), if_neg (by simp [he])]
    cases put with
    | true => rw [if_pos rfl, hJ _ _ (by omega)]; simp
    | false =>
      rw [if_neg (by decide), if_pos (by omega), hJ _ _ (by omega), hr]
      simp [bigS]) (fun k i out put h ho => by
    show tipstaffref09_PutPair.l0 (k + 1) l out put (i : Int) s t = _
    rw [tipstaffref09_PutPair.l0, if_neg (by omega)]
    cases put with
    | true => simp
    | false => rw [if_neg (by decide), if_pos (by omega)]; simp) l.length j 0 [] false (by omega) (by simp; omega)
  simpa using this
theorem putPair_rises (l : List SP) (s t : ByteArray) (h : risesB (l.map (·.f0)) = true) : risesB ((ins1 (fun x : SP => bigS s x.f0) (fun x : SP => sameS s x.f0) (⟨s, t⟩ : SP) false l).map (·.f0)) = true := by
  rw [risesB_pw, List.pairwise_map] at *
  exact ins1_pw _ _ _ (fun a b : SP => ltB a.f0 b.f0 = true) (fun x hx => bigS_false s x.f0 hx) (fun x hx h2 => bigS_true s x.f0 hx h2) (fun x y hx hxy _ => bigS_next s x.f0 y.f0 hx hxy) l h

/-! marks -/
def bigM (m x : SM) : Bool := decide (x.f1 > m.f1 ∨ (x.f1 = m.f1 ∧ Op.bytesLess m.f0.toList x.f0.toList = true))
def sameM (m x : SM) : Bool := decide (x.f0.toList = m.f0.toList)
theorem putMark_f (k : Nat) (l : List SM) (s : ByteArray) (n : Int) (hl : l.length ≤ 900) (hk : l.length + 1 ≤ k) : tipstaffref09_PutMark.f k l s n = some (ins2 (bigM ⟨s, n⟩) (sameM ⟨s, n⟩) (⟨s, n⟩ : SM) false l) := by
  obtain ⟨j, rfl⟩ : ∃ j, k = j + l.length + 1 := ⟨k - l.length - 1, by omega⟩
  unfold tipstaffref09_PutMark.f
  have := put_gen2 (bigM ⟨s, n⟩) (sameM ⟨s, n⟩) (⟨s, n⟩ : SM) (fun k out put i => tipstaffref09_PutMark.l0 k l out put (i : Int) s n) l (fun k i out put h ho => by
    have hr := rd_getMark l i h
    show tipstaffref09_PutMark.l0 (k + 1) l out put (i : Int) s n = _
    rw [tipstaffref09_PutMark.l0, if_pos (by omega), if_pos (by omega), hr, wrap_succ i (by omega)]
    generalize l[i] = x at *
    unfold sameM bigM
    by_cases he : x.f0.toList = s.toList
    · rw [if_pos he, if_pos (decide_eq_true he)]
    rw [if_neg he, if_neg (show ¬ (decide (x.f0.toList = (⟨s, n⟩ : SM).f0.toList) = true) by simp [he])]
    cases put with
    | true => rw [if_pos rfl, if_pos (by omega)]; simp
    | false =>
      rw [if_neg (by decide)]
      by_cases h1 : x.f1 > n
      · rw [if_pos h1, if_pos (by omega)]
        simp only [Option.bind_some]
        rw [if_pos (by simp; omega), if_pos (by simp [h1])]
      · rw [if_neg h1]
        by_cases h2 : x.f1 = n
        · rw [if_pos h2]
          by_cases h3 : Op.bytesLess s.toList x.f0.toList = true
          · rw [if_pos h3, if_pos (by omega)]
            simp only [Option.bind_some]
            rw [if_pos (by simp; omega), if_pos (by simp [h2, h3])]
          · rw [if_neg h3, if_pos (by omega), if_neg (by simp [h1, h2, h3])]
        · rw [if_neg h2, if_pos (by omega), if_neg (by simp; omega)]) (fun k i out put h ho => by
    show tipstaffref09_PutMark.l0 (k + 1) l out put (i : Int) s n = _
    rw [tipstaffref09_PutMark.l0, if_neg (by omega)]
    cases put with
    | true => simp
    | false => rw [if_neg (by decide), if_pos (by omega)]; simp) l.length j 0 [] false (by omega) (by simp; omega)
  simpa using this
theorem putMark_marks (l : List SM) (m : SM) (h : MarksP l) : MarksP (ins2 (bigM m) (sameM m) m false l) := by
  have hbt : ∀ x : SM, sameM m x = false → bigM m x = true → okM m x := by
    intro x hs hb
    unfold sameM at hs
    have hs' : ¬ x.f0.toList = m.f0.toList := of_decide_eq_false hs
    have hb' := of_decide_eq_true hb
    unfold okM ltM ltB
    refine ⟨fun e => hs' (by rw [e]), ?_⟩
    rcases hb' with h | ⟨h1, h2⟩
    · exact .inl h
    · exact .inr ⟨h1.symm, h2⟩
  refine ins2_pw (bigM m) (sameM m) m (fun a b => a.f0 ≠ b.f0 ∧ ltM a b) ?_ hbt ?_ l h
  · intro x hs hb
    unfold sameM at hs
    have hs' : ¬ x.f0.toList = m.f0.toList := of_decide_eq_false hs
    have hb' := of_decide_eq_false hb
    exact (okM_tests x m).2 ⟨hs', fun h => hb' (.inl h), fun h => hb' (.inr h)⟩
  · intro x y hs hb hxy hy
    unfold sameM at hy
    have hy' : ¬ y.f0.toList = m.f0.toList := of_decide_eq_false hy
    exact ⟨fun e => hy' (by rw [e]), ltM_trans _ _ _ (hbt x hs hb).2 hxy.2⟩

/-! Fit -/
/-- What Fit gives: a value that may be, small. -/
structure FitOk (t : Int) (s : ByteArray) (L : List ByteArray) (H : List SP) (Z : List SM) : Prop where
  right : RightP t s L H Z
  nl : L.length ≤ 9
  nh : H.length ≤ 9
  nz : Z.length ≤ 9
  ns : s.size ≤ 40
theorem FitOk.zero : FitOk 0 ⟨#[]⟩ [] [] [] := ⟨.inl ⟨rfl, rfl, rfl, rfl, rfl⟩, by simp, by simp, by simp, by decide⟩

theorem fit_l0 (l : List ByteArray) (hl : l.length ≤ 8) : ∀ (m k i : Nat) (out : List ByteArray), i + m = l.length → out.length ≤ i → risesB out = true → 50 + m ≤ k →
    ∃ t L, tipstaffref09_Fit.l0 k l (i : Int) 0 ⟨#[]⟩ out = some (t, ⟨#[]⟩, L, [], []) ∧ FitOk t ⟨#[]⟩ L [] [] := by
  intro m
  induction m with
  | zero =>
    intro k i out hi ho hr hk
    obtain ⟨k, rfl⟩ : ∃ q, k = q + 2 := ⟨k - 2, by omega⟩
    rw [tipstaffref09_Fit.l0, if_neg (by omega), ref_size]
    simp only [Option.bind_some, sizeOf']
    by_cases he : out = []
    · subst he
      exact ⟨0, [], by simp, FitOk.zero⟩
    · have hp : ¬ ((out.length : Int) = 0) := fun h => he ((len_zero out).1 h)
      refine ⟨4, out, by simp [he], ⟨.inr (.inr (.inr (.inr (.inl ⟨rfl, rfl, he, rfl, rfl, hr⟩)))), by omega, by simp, by simp, by decide⟩⟩
  | succ m ih =>
    intro k i out hi ho hr hk
    obtain ⟨k, rfl⟩ : ∃ q, k = q + 1 := ⟨k - 1, by omega⟩
    have hil : i < l.length := by omega
    rw [tipstaffref09_Fit.l0, if_pos (by omega), if_pos (by omega), rdOf_get l i hil, put_f k out l[i] (by omega) (by omega), wrap_succ i (by omega)]
    simp only [Option.bind_some]
    exact ih k (i + 1) _ (by omega) (Nat.le_trans (ins1_len _ _ _ _ _) (by omega)) (put_rises out l[i] hr) (by omega)
theorem fit_l1 (a0 : Int) (a1 : ByteArray) (a2 : List ByteArray) (l : List SP) (a4 : List SM) : ∀ (m k i : Nat) (out : List SP), i + m = min l.length 8 → out.length ≤ i → risesB (out.map (·.f0)) = true → 50 + m ≤ k →
    ∃ t H, tipstaffref09_Fit.l1 k (i : Int) a0 a1 a2 l a4 0 ⟨#[]⟩ out = some (t, ⟨#[]⟩, [], H, []) ∧ FitOk t ⟨#[]⟩ [] H [] := by
  intro m
  induction m with
  | zero =>
    intro k i out hi ho hr hk
    obtain ⟨k, rfl⟩ : ∃ q, k = q + 2 := ⟨k - 2, by omega⟩
    have hfin : ∃ t H, ((tipstaffref09_Size.f (k + 1) 3 (⟨#[]⟩ : ByteArray) ([] : List ByteArray) out ([] : List SM)).bind fun t395 => (if t395 = 0 then (some ((0 : Int), (⟨#[]⟩ : ByteArray), ([] : List ByteArray), ([] : List SP), ([] : List SM))) else (some ((3 : Int), (⟨#[]⟩ : ByteArray), ([] : List ByteArray), out, ([] : List SM))))) = some (t, ⟨#[]⟩, [], H, []) ∧ FitOk t ⟨#[]⟩ [] H [] := by
      rw [ref_size]
      simp only [Option.bind_some, sizeOf']
      by_cases he : out = []
      · subst he
        exact ⟨0, [], by simp, FitOk.zero⟩
      · refine ⟨3, out, by simp [he], ⟨.inr (.inr (.inr (.inl ⟨rfl, rfl, rfl, he, rfl, hr⟩))), by simp, by omega, by simp, by decide⟩⟩
    rw [tipstaffref09_Fit.l1]
    by_cases h1 : (i : Int) < (l.length : Int)
    · rw [if_pos h1, if_neg (by omega)]; exact hfin
    · rw [if_neg h1]; exact hfin
  | succ m ih =>
    intro k i out hi ho hr hk
    obtain ⟨k, rfl⟩ : ∃ q, k = q + 1 := ⟨k - 1, by omega⟩
    have hil : i < l.length := by omega
    rw [tipstaffref09_Fit.l1, if_pos (by omega), if_pos (by omega), if_pos (by omega), rd_getPair l i hil, putPair_f k out l[i].f0 l[i].f1 (by omega) (by omega), wrap_succ i (by omega)]
    simp only [Option.bind_some]
    exact ih k (i + 1) _ (by omega) (Nat.le_trans (ins1_len _ _ _ _ _) (by omega)) (putPair_rises out l[i].f0 l[i].f1 hr) (by omega)
theorem fit_l2 (a0 : Int) (a1 : ByteArray) (a2 : List ByteArray) (a3 : List SP) (l : List SM) : ∀ (m k i : Nat) (out : List SM), i + m = min l.length 8 → out.length ≤ i → MarksP out → 50 + m ≤ k →
    ∃ t Z, tipstaffref09_Fit.l2 k (i : Int) a0 a1 a2 a3 l 0 ⟨#[]⟩ out = some (t, ⟨#[]⟩, [], [], Z) ∧ FitOk t ⟨#[]⟩ [] [] Z := by
  intro m
  induction m with
  | zero =>
    intro k i out hi ho hr hk
    obtain ⟨k, rfl⟩ : ∃ q, k = q + 2 := ⟨k - 2, by omega⟩
    have hfin : ∃ t Z, ((tipstaffref09_Size.f (k + 1) 5 (⟨#[]⟩ : ByteArray) ([] : List ByteArray) ([] : List SP) out).bind fun t395 => (if t395 = 0 then (some ((0 : Int), (⟨#[]⟩ : ByteArray), ([] : List ByteArray), ([] : List SP), ([] : List SM))) else (some ((5 : Int), (⟨#[]⟩ : ByteArray), ([] : List ByteArray), ([] : List SP), out)))) = some (t, ⟨#[]⟩, [], [], Z) ∧ FitOk t ⟨#[]⟩ [] [] Z := by
      rw [ref_size]
      simp only [Option.bind_some, sizeOf']
      by_cases he : out = []
      · subst he
        exact ⟨0, [], by simp, FitOk.zero⟩
      · refine ⟨5, out, by simp [he], ⟨.inr (.inr (.inr (.inr (.inr ⟨rfl, rfl, rfl, rfl, he, hr⟩)))), by simp, by simp, by omega, by decide⟩⟩
    rw [tipstaffref09_Fit.l2]
    by_cases h1 : (i : Int) < (l.length : Int)
    · rw [if_pos h1, if_neg (by omega)]; exact hfin
    · rw [if_neg h1]; exact hfin
  | succ m ih =>
    intro k i out hi ho hr hk
    obtain ⟨k, rfl⟩ : ∃ q, k = q + 1 := ⟨k - 1, by omega⟩
    have hil : i < l.length := by omega
    rw [tipstaffref09_Fit.l2, if_pos (by omega), if_pos (by omega), if_pos (by omega), rd_getMark l i hil, putMark_f k out l[i].f0 l[i].f1 (by omega) (by omega), wrap_succ i (by omega)]
    simp only [Option.bind_some]
    exact ih k (i + 1) _ (by omega) (Nat.le_trans (ins2_len _ _ _ _ _) (by omega)) (putMark_marks out ⟨l[i].f0, l[i].f1⟩ hr) (by omega)

theorem mnN (n c : Nat) : 0 ≤ mn (n : Int) (c : Int) ∧ mn (n : Int) (c : Int) ≤ (n : Int) ∧ (mn (n : Int) (c : Int)).toNat = min n c := by
  unfold mn
  split <;> omega
theorem fit_f (k : Nat) (a0 : Int) (a1 : ByteArray) (l2 : List ByteArray) (l3 : List SP) (l4 : List SM) (hk : 100 ≤ k) :
    ∃ t s L H Z, tipstaffref09_Fit.f k a0 a1 l2 l3 l4 = some (t, s, L, H, Z) ∧ FitOk t s L H Z := by
  have m2 := mnN l2.length 8
  have ms := mnN a1.size 40
  unfold tipstaffref09_Fit.f
  have e8 : mn (l2.length : Int) 8 = mn (l2.length : Int) ((8 : Nat) : Int) := rfl
  have e40 : mn (a1.size : Int) 40 = mn (a1.size : Int) ((40 : Nat) : Int) := rfl
  rw [e8, e40, if_pos m2.1, if_pos m2.2.1, m2.2.2]
  have hl : (l2.take (min l2.length 8)).length ≤ 8 := by rw [List.length_take]; omega
  by_cases h1 : Int.tmod a0 6 = 1
  · rw [if_pos h1, if_pos ms.1, if_pos ms.2.1]
    refine ⟨1, _, [], [], [], rfl, ⟨.inr (.inl ⟨rfl, rfl, rfl, rfl⟩), by simp, by simp, by simp, ?_⟩⟩
    rw [ByteArray.size_extract, ms.2.2]
    omega
  rw [if_neg h1]
  by_cases h2 : Int.tmod a0 6 = 2
  · rw [if_pos h2]
    simp only [Option.bind_some, List.nil_append, List.length_nil, Nat.zero_add]
    obtain ⟨k, rfl⟩ : ∃ q, k = q + 1 := ⟨k - 1, by omega⟩
    rw [if_pos (by omega), ref_size]
    simp only [Option.bind_some, sizeOf']
    generalize l2.take (min l2.length 8) = out at *
    by_cases he : out = []
    · subst he
      exact ⟨0, ⟨#[]⟩, [], [], [], by simp, FitOk.zero⟩
    · exact ⟨2, ⟨#[]⟩, out, [], [], by simp [he], ⟨.inr (.inr (.inl ⟨rfl, rfl, he, rfl, rfl⟩)), by omega, by simp, by simp, by decide⟩⟩
  rw [if_neg h2]
  by_cases h4 : Int.tmod a0 6 = 4
  · rw [if_pos h4]
    obtain ⟨t, L, e, hf⟩ := fit_l0 (l2.take (min l2.length 8)) hl (l2.take (min l2.length 8)).length k 0 [] (by omega) (by simp) rfl (by omega)
    exact ⟨t, _, L, [], [], e, hf⟩
  rw [if_neg h4]
  by_cases h3 : Int.tmod a0 6 = 3
  · rw [if_pos h3]
    obtain ⟨t, H, e, hf⟩ := fit_l1 a0 a1 l2 l3 l4 (min l3.length 8) k 0 [] (by omega) (by simp) rfl (by omega)
    exact ⟨t, _, [], H, [], e, hf⟩
  rw [if_neg h3]
  by_cases h5 : Int.tmod a0 6 = 5
  · rw [if_pos h5]
    obtain ⟨t, Z, e, hf⟩ := fit_l2 a0 a1 l2 l3 l4 (min l4.length 8) k 0 [] (by omega) (by simp) List.Pairwise.nil (by omega)
    exact ⟨t, _, [], [], Z, e, hf⟩
  rw [if_neg h5]
  obtain ⟨k, rfl⟩ : ∃ q, k = q + 1 := ⟨k - 1, by omega⟩
  rw [ref_size]
  simp only [Option.bind_some, sizeOf']
  exact ⟨0, ⟨#[]⟩, [], [], [], by simp, FitOk.zero⟩
/-- Of what may be: a size above 0 just if it is of a kind. -/
theorem size_pos {t : Int} {s : ByteArray} {L : List ByteArray} {H : List SP} {Z : List SM} (h : RightP t s L H Z) : 0 ≤ t ∧ t ≤ 5 ∧ (0 < sizeOf' t L H Z ↔ t ≠ 0) := by
  unfold sizeOf'
  rcases h with ⟨rfl, _⟩ | ⟨rfl, _⟩ | ⟨rfl, _, h, _⟩ | ⟨rfl, _, _, h, _⟩ | ⟨rfl, _, h, _⟩ | ⟨rfl, _, _, _, h, _⟩
  · simp
  · simp
  · have := (len_pos L).2 h
    simp; omega
  · have := (len_pos H).2 h
    simp; omega
  · have := (len_pos L).2 h
    simp; omega
  · have := (len_pos Z).2 h
    simp; omega
end Go.Proofs.Ytbbgiedfkklojaa.X
