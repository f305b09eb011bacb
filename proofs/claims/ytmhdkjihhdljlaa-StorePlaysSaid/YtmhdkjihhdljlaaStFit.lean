/- The document's Fit, as a contract; values that come in. -/
import Derived.Test.YtmhdkjihhdljlaaXx4
import Derived.Test.YtmhdkjihhdljlaaStLaw
import Derived.Test.YtmhdkjihhdljlaaXx12
set_option linter.unusedVariables false
set_option linter.unusedSimpArgs false
namespace Go.Proofs.Ytmhdkjihhdljlaa.X
open Go.RowKit Go.Lib Go.Proofs.YtmhdkjihhdljlaaW.PrintWords

theorem eq_loop {α : Type} (rd : List α → Int → α) (eqb : α → α → Bool) (L : Nat → List α → List α → Int → Int → Option Bool)
    (hrd : ∀ (x : List α) (i : Nat) (h : i < x.length), rd x (i : Int) = x[i]) (heq : ∀ a b, eqb a b = true ↔ a = b)
    (hL : ∀ k x y n i, L (k + 1) x y n i = if i < n then (if 0 ≤ i then (if i < (x.length : Int) then (if i < (y.length : Int) then (if eqb (rd x i) (rd y i) = true then L k x y n (wrap64 (i + 1)) else some false) else none) else none) else none) else some true) :
    ∀ (m k i : Nat) (x y : List α), x.length = y.length → x.length ≤ 1000000 → i + m = x.length → m < k → ∃ b, L k x y (x.length : Int) (i : Int) = some b ∧ (b = true ↔ x.drop i = y.drop i) := by
  intro m
  induction m with
  | zero =>
    intro k i x y hxy hx hi hk
    obtain ⟨k, rfl⟩ : ∃ q, k = q + 1 := ⟨k - 1, by omega⟩
    refine ⟨true, by rw [hL, if_neg (by omega)], ?_⟩
    simp only [true_iff]
    rw [List.drop_eq_nil_of_le (by omega), List.drop_eq_nil_of_le (by omega)]
  | succ m ih =>
    intro k i x y hxy hx hi hk
    obtain ⟨k, rfl⟩ : ∃ q, k = q + 1 := ⟨k - 1, by omega⟩
    have hix : i < x.length := by omega
    have hiy : i < y.length := by omega
    rw [hL, if_pos (by omega), if_pos (by omega), if_pos (by omega), if_pos (by omega), hrd x i hix, hrd y i hiy]
    have d1 : x.drop i = x[i] :: x.drop (i + 1) := List.drop_eq_getElem_cons hix
    have d2 : y.drop i = y[i] :: y.drop (i + 1) := List.drop_eq_getElem_cons hiy
    by_cases he : eqb x[i] y[i] = true
    · rw [if_pos he, show wrap64 ((i : Int) + 1) = ((i + 1 : Nat) : Int) by unfold wrap64; omega]
      obtain ⟨b, h1, h2⟩ := ih k (i + 1) x y hxy hx (by omega) (by omega)
      refine ⟨b, h1, h2.trans ?_⟩
      rw [d1, d2, (heq _ _).1 he]
      simp only [List.cons.injEq, true_and]
    · rw [if_neg he]
      refine ⟨false, rfl, ?_⟩
      rw [d1, d2]
      constructor
      · intro h; cases h
      · intro h
        injection h with h _
        exact absurd ((heq _ _).2 h) he

theorem list_eq {α : Type} (rd : List α → Int → α) (eqb : α → α → Bool) (L : Nat → List α → List α → Int → Int → Option Bool) (F : Nat → List α → List α → Option Bool)
    (hrd : ∀ (x : List α) (i : Nat) (h : i < x.length), rd x (i : Int) = x[i]) (heq : ∀ a b, eqb a b = true ↔ a = b)
    (hL : ∀ k x y n i, L (k + 1) x y n i = if i < n then (if 0 ≤ i then (if i < (x.length : Int) then (if i < (y.length : Int) then (if eqb (rd x i) (rd y i) = true then L k x y n (wrap64 (i + 1)) else some false) else none) else none) else none) else some true)
    (hF : ∀ k x y, F k x y = if (x.length : Int) = (y.length : Int) then L k x y (x.length : Int) 0 else some false) (k : Nat) (x y : List α) (hx : x.length ≤ 1000000) (hk : x.length < k) :
    ∃ b, F k x y = some b ∧ (b = true ↔ x = y) := by
  rw [hF]
  by_cases h : (x.length : Int) = (y.length : Int)
  · rw [if_pos h]
    have := eq_loop rd eqb L hrd heq hL x.length k 0 x y (by omega) hx (by omega) hk
    simpa using this
  · rw [if_neg h]
    exact ⟨false, rfl, by simp; rintro rfl; exact h rfl⟩

theorem rdOf_get (x : List ByteArray) (i : Nat) (h : i < x.length) : rdOf ByteArray.empty x (i : Int) = x[i] := by
  unfold rdOf; rw [Int.toNat_natCast, List.getD_eq_getElem?_getD, List.getElem?_eq_getElem h]; rfl
theorem bytes_inj (a b : ByteArray) : a.toList = b.toList ↔ a = b := ⟨fun h => by
  rw [Go.ByteArray.toList_eq, Go.ByteArray.toList_eq] at h
  have := Array.toList_inj.1 h
  cases a; cases b; simp_all, fun h => by rw [h]⟩

theorem eq_str (k : Nat) (x y : List ByteArray) (hx : x.length ≤ 1000000) (hk : x.length < k) : ∃ b, slices_Equal_string_string.f k x y = some b ∧ (b = true ↔ x = y) :=
  list_eq (rdOf ByteArray.empty) (fun a b => decide (a.toList = b.toList)) slices_Equal_string_string.l0 slices_Equal_string_string.f rdOf_get (fun a b => by simp [bytes_inj]) (fun k x y n i => by simp [slices_Equal_string_string.l0]) (fun k x y => rfl) k x y hx hk

theorem rd_getPair (x : List S66) (i : Nat) (h : i < x.length) : rd_T66 x (i : Int) = x[i] := by
  unfold rd_T66; rw [Int.toNat_natCast, List.getD_eq_getElem?_getD, List.getElem?_eq_getElem h]; rfl
theorem eq_Pair (k : Nat) (x y : List S66) (hx : x.length ≤ 1000000) (hk : x.length < k) : ∃ b, api_Pair_42.f k x y = some b ∧ (b = true ↔ x = y) :=
  list_eq rd_T66 (fun a b => !(!(a.f0.toList == b.f0.toList) || !(a.f1.toList == b.f1.toList))) api_Pair_42.l0 api_Pair_42.f rd_getPair (fun a b => by
    cases a; cases b
    simp [bytes_inj]) (fun k x y n i => by
    simp only [api_Pair_42.l0]
    repeat (split; try rfl)
    all_goals simp_all) (fun k x y => rfl) k x y hx hk

theorem rd_getMark (x : List S69) (i : Nat) (h : i < x.length) : rd_T69 x (i : Int) = x[i] := by
  unfold rd_T69; rw [Int.toNat_natCast, List.getD_eq_getElem?_getD, List.getElem?_eq_getElem h]; rfl
theorem eq_Mark (k : Nat) (x y : List S69) (hx : x.length ≤ 1000000) (hk : x.length < k) : ∃ b, api_Mark_43.f k x y = some b ∧ (b = true ↔ x = y) :=
  list_eq rd_T69 (fun a b => !(!(a.f0.toList == b.f0.toList) || !(a.f1 == b.f1))) api_Mark_43.l0 api_Mark_43.f rd_getMark (fun a b => by
    cases a; cases b
    simp [bytes_inj]) (fun k x y n i => by
    simp only [api_Mark_43.l0]
    repeat (split; try rfl)
    all_goals simp_all) (fun k x y => rfl) k x y hx hk

/-- Same: whether all is equal. -/
theorem same_f (k : Nat) (a0 : Int) (a1 : ByteArray) (a2 : List ByteArray) (a3 : List S66) (a4 : List S69) (b0 : Int) (b1 : ByteArray) (b2 : List ByteArray) (b3 : List S66) (b4 : List S69)
    (h2 : a2.length ≤ 1000000) (h3 : a3.length ≤ 1000000) (h4 : a4.length ≤ 1000000) (k2 : a2.length < k) (k3 : a3.length < k) (k4 : a4.length < k) :
    ∃ b, value_Same.f k a0 a1 a2 a3 a4 b0 b1 b2 b3 b4 = some b ∧ (b = true ↔ a0 = b0 ∧ a1 = b1 ∧ a2 = b2 ∧ a3 = b3 ∧ a4 = b4) := by
  obtain ⟨x2, e2, i2⟩ := eq_str k a2 b2 h2 k2
  obtain ⟨x3, e3, i3⟩ := eq_Pair k a3 b3 h3 k3
  obtain ⟨x4, e4, i4⟩ := eq_Mark k a4 b4 h4 k4
  unfold value_Same.f
  rw [e2, e3, e4]
  simp only [Option.bind_some, bytes_inj]
  by_cases c0 : a0 = b0
  · by_cases c1 : a1 = b1
    · rw [if_pos c0, if_pos c1]
      cases x2 <;> cases x3 <;> cases x4 <;> simp_all
    · rw [if_pos c0, if_neg c1]
      exact ⟨false, rfl, by simp [c1]⟩
  · rw [if_neg c0]
    exact ⟨false, rfl, by simp [c0]⟩
end Go.Proofs.Ytmhdkjihhdljlaa.X
namespace Go.Proofs.Ytmhdkjihhdljlaa.X
open Go.RowKit Go.Lib Go.Proofs.YtmhdkjihhdljlaaW.PrintWords Go.Proofs.YtmhdkjihhdljlaaW.PrintMore
abbrev SP := S66
abbrev SM := S69
theorem len_zero {α : Type} (l : List α) : ((l.length : Int) = 0) ↔ l = [] := by
  cases l with
  | nil => simp
  | cons a r => simp only [List.length_cons, reduceCtorEq, iff_false]; omega

def sizeOf' (t : Int) (L : List ByteArray) (H : List SP) (Z : List SM) : Int := if t = 1 then 1 else if t = 2 ∨ t = 4 then L.length else if t = 3 then H.length else if t = 5 then Z.length else 0
theorem ref_size (k : Nat) (t : Int) (s : ByteArray) (L : List ByteArray) (H : List SP) (Z : List SM) : tipstaffref09_Size.f (k + 1) t s L H Z = some (sizeOf' t L H Z) := by
  unfold tipstaffref09_Size.f sizeOf'
  simp only [tipstaffref09_Size.j0]
  by_cases h1 : t = 1
  · simp [h1]
  by_cases h2 : t = 2
  · simp [h2]
  by_cases h4 : t = 4
  · simp [h4]
  by_cases h3 : t = 3
  · simp [h3]
  by_cases h5 : t = 5 <;> simp [h1, h2, h3, h4, h5]

section
variable {α : Type} (big same : α → Bool) (m : α)
def ins1 : Bool → List α → List α
  | put, [] => if put = true then [] else [m]
  | put, x :: r => if (!put && big x) = true then m :: ((if same x = true then [] else [x]) ++ ins1 true r) else (if same x = true then [] else [x]) ++ ins1 put r
def ins2 : Bool → List α → List α
  | put, [] => if put = true then [] else [m]
  | put, x :: r => if same x = true then ins2 put r else (if (!put && big x) = true then m :: x :: ins2 true r else x :: ins2 put r)
theorem ins1_true : ∀ l : List α, ins1 big same m true l = l.filter (fun x => !same x)
  | [] => rfl
  | x :: r => by
    rw [ins1, ins1_true r]
    cases h : same x <;> simp [h]
theorem ins2_true : ∀ l : List α, ins2 big same m true l = l.filter (fun x => !same x)
  | [] => rfl
  | x :: r => by
    rw [ins2, ins2_true r]
    cases h : same x <;> simp [h]
theorem ins1_len : ∀ (put : Bool) (l : List α), (ins1 big same m put l).length ≤ l.length + 1
  | true, l => by rw [ins1_true]; exact Nat.le_succ_of_le (List.length_filter_le _ _)
  | false, [] => by simp [ins1]
  | false, x :: r => by
    rw [ins1, ins1_true]
    have h1 := List.length_filter_le (fun x => !same x) r
    have h2 := ins1_len false r
    split
    · simp only [List.length_cons, List.length_append]
      split <;> simp <;> omega
    · simp only [List.length_append]
      split <;> simp <;> omega
theorem ins2_len : ∀ (put : Bool) (l : List α), (ins2 big same m put l).length ≤ l.length + 1
  | true, l => by rw [ins2_true]; exact Nat.le_succ_of_le (List.length_filter_le _ _)
  | false, [] => by simp [ins2]
  | false, x :: r => by
    rw [ins2, ins2_true]
    have h1 := List.length_filter_le (fun x => !same x) r
    have h2 := ins2_len false r
    split
    · simp only [List.length_cons]; omega
    · split
      · simp only [List.length_cons]; omega
      · simp only [List.length_cons]; omega
variable (lt : α → α → Prop)
/-- The loop, told by its step. -/
theorem put_gen1 (L : Nat → List α → Bool → Nat → Option (List α)) (l : List α)
    (step : ∀ k i out put (h : i < l.length), out.length ≤ 2000 → L (k + 2) out put i = if (!put && big l[i]) = true then L k ((out ++ [m]) ++ (if same l[i] = true then [] else [l[i]])) true (i + 1) else L k (out ++ (if same l[i] = true then [] else [l[i]])) put (i + 1))
    (fin : ∀ k i out put, l.length ≤ i → out.length ≤ 2000 → L (k + 1) out put i = some (out ++ (if put = true then [] else [m]))) :
    ∀ (n k i : Nat) (out : List α) (put : Bool), i + n = l.length → out.length + 2 * n ≤ 2000 → L (k + 2 * n + 1) out put i = some (out ++ ins1 big same m put (l.drop i)) := by
  intro n
  induction n with
  | zero =>
    intro k i out put hi ho
    rw [Nat.mul_zero, Nat.add_zero, fin _ _ _ _ (by omega) (by omega), List.drop_eq_nil_of_le (by omega), ins1]
  | succ n ih =>
    intro k i out put hi ho
    have hil : i < l.length := by omega
    rw [show k + 2 * (n + 1) + 1 = (k + 2 * n + 1) + 2 by omega, step _ _ _ _ hil (by omega), List.drop_eq_getElem_cons hil, ins1]
    split
    · rw [ih k (i + 1) _ true (by omega) (by simp only [List.length_append, List.length_cons, List.length_nil]; split <;> simp <;> omega)]
      simp
    · rw [ih k (i + 1) _ put (by omega) (by simp only [List.length_append]; split <;> simp <;> omega)]
      simp
theorem put_gen2 (L : Nat → List α → Bool → Nat → Option (List α)) (l : List α)
    (step : ∀ k i out put (h : i < l.length), out.length ≤ 2000 → L (k + 1) out put i = if same l[i] = true then L k out put (i + 1) else (if (!put && big l[i]) = true then L k ((out ++ [m]) ++ [l[i]]) true (i + 1) else L k (out ++ [l[i]]) put (i + 1)))
    (fin : ∀ k i out put, l.length ≤ i → out.length ≤ 2000 → L (k + 1) out put i = some (out ++ (if put = true then [] else [m]))) :
    ∀ (n k i : Nat) (out : List α) (put : Bool), i + n = l.length → out.length + 2 * n ≤ 2000 → L (k + n + 1) out put i = some (out ++ ins2 big same m put (l.drop i)) := by
  intro n
  induction n with
  | zero =>
    intro k i out put hi ho
    rw [Nat.add_zero, fin _ _ _ _ (by omega) (by omega), List.drop_eq_nil_of_le (by omega), ins2]
  | succ n ih =>
    intro k i out put hi ho
    have hil : i < l.length := by omega
    rw [show k + (n + 1) + 1 = (k + n + 1) + 1 by omega, step _ _ _ _ hil (by omega), List.drop_eq_getElem_cons hil, ins2]
    split
    · exact ih k (i + 1) _ put (by omega) (by omega)
    · split
      · rw [ih k (i + 1) _ true (by omega) (by simp; omega)]
        simp
      · rw [ih k (i + 1) _ put (by omega) (by simp; omega)]
        simp
end

theorem wrap_succ (i : Nat) (h : i ≤ 1000000) : wrap64 ((i : Int) + 1) = ((i + 1 : Nat) : Int) := by unfold wrap64; omega

/-! texts -/
def bigS (s x : ByteArray) : Bool := !(Op.bytesLess x.toList s.toList)
def sameS (s x : ByteArray) : Bool := decide (x.toList = s.toList)
theorem put_f (k : Nat) (l : List ByteArray) (s : ByteArray) (hl : l.length ≤ 900) (hk : 2 * l.length + 1 ≤ k) : tipstaffref09_Put.f k l s = some (ins1 (bigS s) (sameS s) s false l) := by
  obtain ⟨j, rfl⟩ : ∃ j, k = j + 2 * l.length + 1 := ⟨k - 2 * l.length - 1, by omega⟩
  unfold tipstaffref09_Put.f
  have := put_gen1 (bigS s) (sameS s) s (fun k out put i => tipstaffref09_Put.l0 k l s out put (i : Int)) l (fun k i out put h ho => by
    have hr := rdOf_get l i h
    rw [tipstaffref09_Put.l0, if_pos (by omega)]
    have hJ : ∀ b out, out.length ≤ 2001 → tipstaffref09_Put.j1 (k + 1) l s out put (i : Int) b = if b = true then tipstaffref09_Put.l0 k l s ((out ++ [s]) ++ (if sameS s l[i] = true then [] else [l[i]])) true ((i + 1 : Nat) : Int) else tipstaffref09_Put.l0 k l s (out ++ (if sameS s l[i] = true then [] else [l[i]])) put ((i + 1 : Nat) : Int) := by
      intro b out ho
      rw [tipstaffref09_Put.j1, hr, wrap_succ i (by omega)]
      unfold sameS
      cases b with
      | true =>
        rw [if_pos rfl, if_pos rfl, if_pos (by omega)]
        simp only [Option.bind_some]
        rw [if_pos (by omega), if_pos (by omega)]
        by_cases he : l[i].toList = s.toList
        · rw [if_pos he, if_pos (decide_eq_true he), List.append_nil]
        · rw [if_neg he, if_pos (by simp; omega), if_neg (by simp [he])]
      | false =>
        rw [if_neg (show ¬ (false = true) by decide), if_neg (show ¬ (false = true) by decide), if_pos (by omega), if_pos (by omega)]
        by_cases he : l[i].toList = s.toList
        · rw [if_pos he, if_pos (decide_eq_true he), List.append_nil]
        · rw [if_neg he, if_pos (by omega), if_neg (by simp [he])]
    cases put with
    | true => rw [if_pos rfl, hJ _ _ (by omega)]; simp
    | false =>
      rw [if_neg (by decide), if_pos (by omega), hJ _ _ (by omega), hr]
      simp [bigS]) (fun k i out put h ho => by
    show tipstaffref09_Put.l0 (k + 1) l s out put (i : Int) = _
    rw [tipstaffref09_Put.l0, if_neg (by omega)]
    cases put with
    | true => simp
    | false => rw [if_neg (by decide), if_pos (by omega)]; simp) l.length j 0 [] false (by omega) (by simp; omega)
  simpa using this
theorem putPair_f (k : Nat) (l : List SP) (s t : ByteArray) (hl : l.length ≤ 900) (hk : 2 * l.length + 1 ≤ k) : tipstaffref09_PutPair.f k l s t = some (ins1 (fun x : SP => bigS s x.f0) (fun x : SP => sameS s x.f0) (⟨s, t⟩ : SP) false l) := by
  obtain ⟨j, rfl⟩ : ∃ j, k = j + 2 * l.length + 1 := ⟨k - 2 * l.length - 1, by omega⟩
  unfold tipstaffref09_PutPair.f
  have := put_gen1 (fun x : SP => bigS s x.f0) (fun x : SP => sameS s x.f0) (⟨s, t⟩ : SP) (fun k out put i => tipstaffref09_PutPair.l0 k l out put (i : Int) s t) l (fun k i out put h ho => by
    have hr := rd_getPair l i h
    rw [tipstaffref09_PutPair.l0, if_pos (by omega)]
    have hJ : ∀ b out, out.length ≤ 2001 → tipstaffref09_PutPair.j1 (k + 1) l out put (i : Int) b s t = if b = true then tipstaffref09_PutPair.l0 k l ((out ++ [(⟨s, t⟩ : SP)]) ++ (if sameS s l[i].f0 = true then [] else [l[i]])) true ((i + 1 : Nat) : Int) s t else tipstaffref09_PutPair.l0 k l (out ++ (if sameS s l[i].f0 = true then [] else [l[i]])) put ((i + 1 : Nat) : Int) s t := by
      intro b out ho
      rw [tipstaffref09_PutPair.j1, hr, wrap_succ i (by omega)]
      unfold sameS
      cases b with
      | true =>
        rw [if_pos rfl, if_pos rfl, if_pos (by omega)]
        simp only [Option.bind_some]
        rw [if_pos (by omega), if_pos (by omega)]
        by_cases he : l[i].f0.toList = s.toList
        · rw [if_pos he, if_pos (decide_eq_true he), List.append_nil]
        · rw [if_neg he, if_pos (by simp; omega), if_neg (by simp [he])]
      | false =>
        rw [if_neg (show ¬ (false = true) by decide), if_neg (show ¬ (false = true) by decide), if_pos (by omega), if_pos (by omega)]
        by_cases he : l[i].f0.toList = s.toList
        · rw [if_pos he, if_pos (decide_eq_true he), List.append_nil]
        · rw [if_neg he, if_pos (by omega), if_neg (by simp [he])]
    cases put with
    | true => rw [if_pos rfl, hJ _ _ (by omega)]; simp
    | false =>
      rw [if_neg (by decide), if_pos (by omega), hJ _ _ (by omega), hr]
      simp [bigS]) (fun k i out put h ho => by
    show tipstaffref09_PutPair.l0 (k + 1) l out put (i : Int) s t = _
    rw [tipstaffref09_PutPair.l0, if_neg (by omega)]
    cases put with
    | true => simp
    | false => rw [if_neg (by decide), if_pos (by omega)]; simp) l.length j 0 [] false (by omega) (by simp; omega)
  simpa using this
def bigM (m x : SM) : Bool := decide (x.f1 > m.f1 ∨ (x.f1 = m.f1 ∧ Op.bytesLess m.f0.toList x.f0.toList = true))
def sameM (m x : SM) : Bool := decide (x.f0.toList = m.f0.toList)
theorem putMark_f (k : Nat) (l : List SM) (s : ByteArray) (n : Int) (hl : l.length ≤ 900) (hk : l.length + 1 ≤ k) : tipstaffref09_PutMark.f k l s n = some (ins2 (bigM ⟨s, n⟩) (sameM ⟨s, n⟩) (⟨s, n⟩ : SM) false l) := by
  obtain ⟨j, rfl⟩ : ∃ j, k = j + l.length + 1 := ⟨k - l.length - 1, by omega⟩
  unfold tipstaffref09_PutMark.f
  have := put_gen2 (bigM ⟨s, n⟩) (sameM ⟨s, n⟩) (⟨s, n⟩ : SM) (fun k out put i => tipstaffref09_PutMark.l0 k l out put (i : Int) s n) l (fun k i out put h ho => by
    have hr := rd_getMark l i h
    show tipstaffref09_PutMark.l0 (k + 1) l out put (i : Int) s n = _
    rw [tipstaffref09_PutMark.l0, if_pos (by omega), if_pos (by omega), hr, wrap_succ i (by omega)]
    generalize l[i] = x at *
    unfold sameM bigM
    by_cases he : x.f0.toList = s.toList
    · rw [if_pos he, if_pos (decide_eq_true he)]
    rw [if_neg he, if_neg (show ¬ (decide (x.f0.toList = (⟨s, n⟩ : SM).f0.toList) = true) by simp [he])]
    cases put with
    | true => rw [if_pos rfl, if_pos (by omega)]; simp
    | false =>
      rw [if_neg (by decide)]
      by_cases h1 : x.f1 > n
      · rw [if_pos h1, if_pos (by omega)]
        simp only [Option.bind_some]
        rw [if_pos (by simp; omega), if_pos (by simp [h1])]
      · rw [if_neg h1]
        by_cases h2 : x.f1 = n
        · rw [if_pos h2]
          by_cases h3 : Op.bytesLess s.toList x.f0.toList = true
          · rw [if_pos h3, if_pos (by omega)]
            simp only [Option.bind_some]
            rw [if_pos (by simp; omega), if_pos (by simp [h2, h3])]
          · rw [if_neg h3, if_pos (by omega), if_neg (by simp [h1, h2, h3])]
        · rw [if_neg h2, if_pos (by omega), if_neg (by simp; omega)]) (fun k i out put h ho => by
    show tipstaffref09_PutMark.l0 (k + 1) l out put (i : Int) s n = _
    rw [tipstaffref09_PutMark.l0, if_neg (by omega)]
    cases put with
    | true => simp
    | false => rw [if_neg (by decide), if_pos (by omega)]; simp) l.length j 0 [] false (by omega) (by simp; omega)
  simpa using this
/-! Fit -/
/-- What Fit gives: a value, small; of kind 0 just the empty one. -/
structure FitOk (t : Int) (s : ByteArray) (L : List ByteArray) (H : List SP) (Z : List SM) : Prop where
  kind : (t = 0 ∧ s = ⟨#[]⟩ ∧ L = [] ∧ H = [] ∧ Z = []) ∨ (1 ≤ t ∧ t ≤ 5)
  nl : L.length ≤ 9
  nh : H.length ≤ 9
  nz : Z.length ≤ 9
  ns : s.size ≤ 40
theorem FitOk.zero : FitOk 0 ⟨#[]⟩ [] [] [] := ⟨.inl ⟨rfl, rfl, rfl, rfl, rfl⟩, by simp, by simp, by simp, by decide⟩

theorem fit_l0 (l : List ByteArray) (hl : l.length ≤ 8) : ∀ (m k i : Nat) (out : List ByteArray), i + m = l.length → out.length ≤ i → 50 + m ≤ k →
    ∃ t L, tipstaffref09_Fit.l0 k l (i : Int) 0 ⟨#[]⟩ out = some (t, ⟨#[]⟩, L, [], []) ∧ FitOk t ⟨#[]⟩ L [] [] := by
  intro m
  induction m with
  | zero =>
    intro k i out hi ho hk
    obtain ⟨k, rfl⟩ : ∃ q, k = q + 2 := ⟨k - 2, by omega⟩
    rw [tipstaffref09_Fit.l0, if_neg (by omega), ref_size]
    simp only [Option.bind_some, sizeOf']
    by_cases he : out = []
    · subst he
      exact ⟨0, [], by simp, FitOk.zero⟩
    · have hp : ¬ ((out.length : Int) = 0) := fun h => he ((len_zero out).1 h)
      refine ⟨4, out, by simp [he], ⟨.inr ⟨by decide, by decide⟩, by omega, by simp, by simp, by decide⟩⟩
  | succ m ih =>
    intro k i out hi ho hk
    obtain ⟨k, rfl⟩ : ∃ q, k = q + 1 := ⟨k - 1, by omega⟩
    have hil : i < l.length := by omega
    rw [tipstaffref09_Fit.l0, if_pos (by omega), if_pos (by omega), rdOf_get l i hil, put_f k out l[i] (by omega) (by omega), wrap_succ i (by omega)]
    simp only [Option.bind_some]
    exact ih k (i + 1) _ (by omega) (Nat.le_trans (ins1_len _ _ _ _ _) (by omega)) (by omega)
theorem fit_l1 (a0 : Int) (a1 : ByteArray) (a2 : List ByteArray) (l : List SP) (a4 : List SM) : ∀ (m k i : Nat) (out : List SP), i + m = min l.length 8 → out.length ≤ i → 50 + m ≤ k →
    ∃ t H, tipstaffref09_Fit.l1 k (i : Int) a0 a1 a2 l a4 0 ⟨#[]⟩ out = some (t, ⟨#[]⟩, [], H, []) ∧ FitOk t ⟨#[]⟩ [] H [] := by
  intro m
  induction m with
  | zero =>
    intro k i out hi ho hk
    obtain ⟨k, rfl⟩ : ∃ q, k = q + 2 := ⟨k - 2, by omega⟩
    have hfin : ∃ t H, ((tipstaffref09_Size.f (k + 1) 3 (⟨#[]⟩ : ByteArray) ([] : List ByteArray) out ([] : List SM)).bind fun t395 => (if t395 = 0 then (some ((0 : Int), (⟨#[]⟩ : ByteArray), ([] : List ByteArray), ([] : List SP), ([] : List SM))) else (some ((3 : Int), (⟨#[]⟩ : ByteArray), ([] : List ByteArray), out, ([] : List SM))))) = some (t, ⟨#[]⟩, [], H, []) ∧ FitOk t ⟨#[]⟩ [] H [] := by
      rw [ref_size]
      simp only [Option.bind_some, sizeOf']
      by_cases he : out = []
      · subst he
        exact ⟨0, [], by simp, FitOk.zero⟩
      · refine ⟨3, out, by simp [he], ⟨.inr ⟨by decide, by decide⟩, by simp, by omega, by simp, by decide⟩⟩
    rw [tipstaffref09_Fit.l1]
    by_cases h1 : (i : Int) < (l.length : Int)
    · rw [if_pos h1, if_neg (by omega)]; exact hfin
    · rw [if_neg h1]; exact hfin
  | succ m ih =>
    intro k i out hi ho hk
    obtain ⟨k, rfl⟩ : ∃ q, k = q + 1 := ⟨k - 1, by omega⟩
    have hil : i < l.length := by omega
    rw [tipstaffref09_Fit.l1, if_pos (by omega), if_pos (by omega), if_pos (by omega), rd_getPair l i hil, putPair_f k out l[i].f0 l[i].f1 (by omega) (by omega), wrap_succ i (by omega)]
    simp only [Option.bind_some]
    exact ih k (i + 1) _ (by omega) (Nat.le_trans (ins1_len _ _ _ _ _) (by omega)) (by omega)
theorem fit_l2 (a0 : Int) (a1 : ByteArray) (a2 : List ByteArray) (a3 : List SP) (l : List SM) : ∀ (m k i : Nat) (out : List SM), i + m = min l.length 8 → out.length ≤ i → 50 + m ≤ k →
    ∃ t Z, tipstaffref09_Fit.l2 k (i : Int) a0 a1 a2 a3 l 0 ⟨#[]⟩ out = some (t, ⟨#[]⟩, [], [], Z) ∧ FitOk t ⟨#[]⟩ [] [] Z := by
  intro m
  induction m with
  | zero =>
    intro k i out hi ho hk
    obtain ⟨k, rfl⟩ : ∃ q, k = q + 2 := ⟨k - 2, by omega⟩
    have hfin : ∃ t Z, ((tipstaffref09_Size.f (k + 1) 5 (⟨#[]⟩ : ByteArray) ([] : List ByteArray) ([] : List SP) out).bind fun t395 => (if t395 = 0 then (some ((0 : Int), (⟨#[]⟩ : ByteArray), ([] : List ByteArray), ([] : List SP), ([] : List SM))) else (some ((5 : Int), (⟨#[]⟩ : ByteArray), ([] : List ByteArray), ([] : List SP), out)))) = some (t, ⟨#[]⟩, [], [], Z) ∧ FitOk t ⟨#[]⟩ [] [] Z := by
      rw [ref_size]
      simp only [Option.bind_some, sizeOf']
      by_cases he : out = []
      · subst he
        exact ⟨0, [], by simp, FitOk.zero⟩
      · refine ⟨5, out, by simp [he], ⟨.inr ⟨by decide, by decide⟩, by simp, by simp, by omega, by decide⟩⟩
    rw [tipstaffref09_Fit.l2]
    by_cases h1 : (i : Int) < (l.length : Int)
    · rw [if_pos h1, if_neg (by omega)]; exact hfin
    · rw [if_neg h1]; exact hfin
  | succ m ih =>
    intro k i out hi ho hk
    obtain ⟨k, rfl⟩ : ∃ q, k = q + 1 := ⟨k - 1, by omega⟩
    have hil : i < l.length := by omega
    rw [tipstaffref09_Fit.l2, if_pos (by omega), if_pos (by omega), if_pos (by omega), rd_getMark l i hil, putMark_f k out l[i].f0 l[i].f1 (by omega) (by omega), wrap_succ i (by omega)]
    simp only [Option.bind_some]
    exact ih k (i + 1) _ (by omega) (Nat.le_trans (ins2_len _ _ _ _ _) (by omega)) (by omega)

theorem mnN (n c : Nat) : 0 ≤ mn (n : Int) (c : Int) ∧ mn (n : Int) (c : Int) ≤ (n : Int) ∧ (mn (n : Int) (c : Int)).toNat = min n c := by
  unfold mn
  split <;> omega
theorem fit_f (k : Nat) (a0 : Int) (a1 : ByteArray) (l2 : List ByteArray) (l3 : List SP) (l4 : List SM) (hk : 100 ≤ k) :
    ∃ t s L H Z, tipstaffref09_Fit.f k a0 a1 l2 l3 l4 = some (t, s, L, H, Z) ∧ FitOk t s L H Z := by
  have m2 := mnN l2.length 8
  have ms := mnN a1.size 40
  unfold tipstaffref09_Fit.f
  have e8 : mn (l2.length : Int) 8 = mn (l2.length : Int) ((8 : Nat) : Int) := rfl
  have e40 : mn (a1.size : Int) 40 = mn (a1.size : Int) ((40 : Nat) : Int) := rfl
  rw [e8, e40, if_pos m2.1, if_pos m2.2.1, m2.2.2]
  have hl : (l2.take (min l2.length 8)).length ≤ 8 := by rw [List.length_take]; omega
  by_cases h1 : Int.tmod a0 6 = 1
  · rw [if_pos h1, if_pos ms.1, if_pos ms.2.1]
    refine ⟨1, _, [], [], [], rfl, ⟨.inr ⟨by decide, by decide⟩, by simp, by simp, by simp, ?_⟩⟩
    rw [ByteArray.size_extract, ms.2.2]
    omega
  rw [if_neg h1]
  by_cases h2 : Int.tmod a0 6 = 2
  · rw [if_pos h2]
    simp only [Option.bind_some, List.nil_append, List.length_nil, Nat.zero_add]
    obtain ⟨k, rfl⟩ : ∃ q, k = q + 1 := ⟨k - 1, by omega⟩
    rw [if_pos (by omega), ref_size]
    simp only [Option.bind_some, sizeOf']
    generalize l2.take (min l2.length 8) = out at *
    by_cases he : out = []
    · subst he
      exact ⟨0, ⟨#[]⟩, [], [], [], by simp, FitOk.zero⟩
    · exact ⟨2, ⟨#[]⟩, out, [], [], by simp [he], ⟨.inr ⟨by decide, by decide⟩, by omega, by simp, by simp, by decide⟩⟩
  rw [if_neg h2]
  by_cases h4 : Int.tmod a0 6 = 4
  · rw [if_pos h4]
    obtain ⟨t, L, e, hf⟩ := fit_l0 (l2.take (min l2.length 8)) hl (l2.take (min l2.length 8)).length k 0 [] (by omega) (by simp) (by omega)
    exact ⟨t, _, L, [], [], e, hf⟩
  rw [if_neg h4]
  by_cases h3 : Int.tmod a0 6 = 3
  · rw [if_pos h3]
    obtain ⟨t, H, e, hf⟩ := fit_l1 a0 a1 l2 l3 l4 (min l3.length 8) k 0 [] (by omega) (by simp) (by omega)
    exact ⟨t, _, [], H, [], e, hf⟩
  rw [if_neg h3]
  by_cases h5 : Int.tmod a0 6 = 5
  · rw [if_pos h5]
    obtain ⟨t, Z, e, hf⟩ := fit_l2 a0 a1 l2 l3 l4 (min l4.length 8) k 0 [] (by omega) (by simp) (by omega)
    exact ⟨t, _, [], [], Z, e, hf⟩
  rw [if_neg h5]
  obtain ⟨k, rfl⟩ : ∃ q, k = q + 1 := ⟨k - 1, by omega⟩
  rw [ref_size]
  simp only [Option.bind_some, sizeOf']
  exact ⟨0, ⟨#[]⟩, [], [], [], by simp, FitOk.zero⟩
end Go.Proofs.Ytmhdkjihhdljlaa.X
namespace Go.Proofs.Ytmhdkjihhdljlaa.X
open Go.RowKit Go.Maps Go.ChangeMaps Go.MapKept Go.Proofs.Ytmhdkjihhdljlaa.Mv Go.Proofs.YtmhdkjihhdljlaaW.PrintWords Go.Proofs.YtmhdkjihhdljlaaW.PrintMore
/-- The value that Fit makes of one. -/
def fitV (y : Vl) : Vl := match tipstaffref09_Fit.f 100 y.kind y.s y.l y.h y.z with
  | some (t, s, L, H, Z) => ⟨t, s, L, H, Z⟩
  | none => noneV
/-- A small value. -/
structure VFit (x : Vl) : Prop where
  ok : FitOk x.kind x.s x.l x.h x.z
theorem fit_eq (y : Vl) : tipstaffref09_Fit.f 100 y.kind y.s y.l y.h y.z = some ((fitV y).kind, (fitV y).s, (fitV y).l, (fitV y).h, (fitV y).z) ∧ VFit (fitV y) := by
  obtain ⟨t, s, L, H, Z, h1, h2⟩ := fit_f 100 y.kind y.s y.l y.h y.z (by omega)
  have e : fitV y = ⟨t, s, L, H, Z⟩ := by unfold fitV; rw [h1]
  rw [e, h1]
  exact ⟨rfl, ⟨h2⟩⟩
theorem VFit.vok {x : Vl} (h : VFit x) : VOk x := ⟨Nat.le_trans h.ok.nl (by decide), Nat.le_trans h.ok.nh (by decide), Nat.le_trans h.ok.nz (by decide)⟩
theorem VFit.none {x : Vl} (h : VFit x) (h0 : x.kind = 0) : x = noneV := by
  rcases h.ok.kind with ⟨_, h2, h3, h4, h5⟩ | ⟨h1, _⟩
  · cases x; simp only at *; subst h0 h2 h3 h4 h5; rfl
  · omega
/-- A value lies in memory, for reading. -/
structure VC (w : World) (x : Vl) (A2 A3 A4 : Option Addr) (n2 n3 n4 c2 c3 c4 : Nat) : Prop where
  e2 : x.l.length = n2
  e3 : x.h.length = n3
  e4 : x.z.length = n4
  l2 : n2 ≤ c2
  l3 : n3 ≤ c3
  l4 : n4 ≤ c4
  C2 : Kd.C Kd.string w A2 x.l.length x.l
  C3 : Kd.C kPair w A3 x.h.length x.h
  C4 : Kd.C kMark w A4 x.z.length x.z
section
variable {w0 w w1 : World} {S T : Nat → Prop} {b g me mc n nc : Nat} {now : Int} {E : List Ent} {C : ByteArray → Int} {x y : Vl} {A2 A3 A4 : Option Addr} {n2 n3 n4 c2 c3 c4 : Nat}
theorem VC.below (h : VC w x A2 A3 A4 n2 n3 n4 c2 c3 c4) (hb : Below w.heap.size w w1) : VC w1 x A2 A3 A4 n2 n3 n4 c2 c3 c4 :=
  { h with C2 := Kd.C_below h.C2 hb, C3 := Kd.C_below h.C3 hb, C4 := Kd.C_below h.C4 hb }
theorem VC.kept (h : VC w x A2 A3 A4 n2 n3 n4 c2 c3 c4) (hc : ∀ a v, w.cell? a = some v → w1.cell? a = some v) : VC w1 x A2 A3 A4 n2 n3 n4 c2 c3 c4 :=
  { h with C2 := C_kept h.C2 hc, C3 := C_kept h.C3 hc, C4 := C_kept h.C4 hc }
/-- A value lies in memory, made behind b. -/
structure VR (w : World) (b : Nat) (x : Vl) (A2 A3 A4 : Option Addr) (n2 n3 n4 c2 c3 c4 : Nat) : Prop where
  e2 : x.l.length = n2
  e3 : x.h.length = n3
  e4 : x.z.length = n4
  rows : RowsAt w b x (.slice A2 n2 c2) (.slice A3 n3 c3) (.slice A4 n4 c4)
theorem VR.vc (h : VR w b x A2 A3 A4 n2 n3 n4 c2 c3 c4) : VC w x A2 A3 A4 n2 n3 n4 c2 c3 c4 := by
  obtain ⟨rfl, rfl, rfl, hr⟩ := h
  obtain ⟨B2, d2, B3, d3, B4, d4, q2, q3, q4, l2, l3, l4, C2, C3, C4⟩ := hr.parts
  injection q2 with a1 a2 a3
  injection q3 with b1 b2 b3
  injection q4 with c1 c2 c3
  subst a1 a3 b1 b3 c1 c3
  exact ⟨rfl, rfl, rfl, l2, l3, l4, C2, C3, C4⟩
theorem VR.below (h : VR w b x A2 A3 A4 n2 n3 n4 c2 c3 c4) (hb : Below w.heap.size w w1) : VR w1 b x A2 A3 A4 n2 n3 n4 c2 c3 c4 :=
  { h with rows := h.rows.move fun k cs t hk _ _ _ => hb.block k (pwlt hk) }
/-- A call of a store leaves it. -/
theorem VR.post {g0 me0 mc0 n0 nc0 : Nat} {now0 : Int} {E0 : List Ent} {C0 : ByteArray → Int} {S' : Nat → Prop} (h : VR w b x A2 A3 A4 n2 n3 n4 c2 c3 c4) (hp : Post w0 w w1 S g me mc n nc now E C S') (h0 : StoreSt w0 w S g0 me0 mc0 n0 nc0 now0 E0 C0) : VR w1 b x A2 A3 A4 n2 n3 n4 c2 c3 c4 :=
  ⟨h.e2, h.e3, h.e4, h.rows.move fun k cs t hk t1 t2 t3 => hp.kp.block k (pwlt hk) fun hS => (h0.typ k hS _ _ hk).elim t1 fun h => h.elim t2 t3⟩
theorem fit_any (y : Vl) (x : Vl) (hx : fitV y = x) (h : VC w y A2 A3 A4 n2 n3 n4 c2 c3 c4) :
    Calls Try.prog 11 #[.agg #[.int .u8 y.kind, .string y.s, .slice A2 n2 c2, .slice A3 n3 c3, .slice A4 n4 c4]] w fun e w' => ∃ B2 B3 B4 m2 m3 m4 d2 d3 d4, e = .returned (.agg #[.int .u8 x.kind, .string x.s, .slice B2 m2 d2, .slice B3 m3 d3, .slice B4 m4 d4]) ∧ Aside0 (VR w' w.heap.size x B2 B3 B4 m2 m3 m4 d2 d3 d4) ∧ Aside0 (Below w.heap.size w w') := by
  subst hx
  obtain ⟨rfl, rfl, rfl, l2, l3, l4, C2, C3, C4⟩ := h
  refine (tipstaffref09_Fit.calls 100 y.kind y.s A2 c2 y.l A3 c3 y.h A4 c4 y.z _ _ _ _ _ w C2 l2 C3 l3 C4 l4 (fit_eq y).1).mono ?_
  rintro e w' ⟨v2, v3, v4, rfl, R2, R3, R4, hb⟩
  obtain ⟨B2, d2, B3, d3, B4, d4, rfl, rfl, rfl, k2, k3, k4, D2, D3, D4⟩ := RowsAt.parts (x := fitV y) (b := w.heap.size) ⟨R2, R3, R4⟩
  exact ⟨B2, B3, B4, _, _, _, d2, d3, d4, rfl, ⟨rfl, rfl, rfl, R2, R3, R4⟩, ⟨hb⟩⟩
theorem v_put (k : ByteArray) (hk : k.size ≤ maxLen) (hn : n < maxLen) (hnc : nc < maxLen) (x : Vl) (hx : VOk x) (hx0 : x.kind ≠ 0) (E' : List Ent) (hE : putE k x E = E') (C' : ByteArray → Int) (hC : putC k x E C = C') (h : VC w x A2 A3 A4 n2 n3 n4 c2 c3 c4) (H : StoreSt w0 w S g me mc n nc now E C) :
    Calls Try.prog 13 #[.pointer (some ⟨g, 0, none⟩), .string k, .agg #[.int .u8 x.kind, .string x.s, .slice A2 n2 c2, .slice A3 n3 c3, .slice A4 n4 c4]] w fun e w' => e = .returned (.tuple #[]) ∧ ∃ S', Aside0 (Post w0 w w' S g me mc (n + 1) (nc + 1) now E' C' S') :=
  t_put k hk hn hnc x hx hx0 E' hE C' hC A2 A3 A4 n2 n3 n4 c2 c3 c4 h.e2 h.e3 h.e4 h.l2 h.l3 h.l4 h.C2 h.C3 h.C4 H
theorem v_get (k : ByteArray) (hk : k.size ≤ maxLen) (x : Vl) (hx : valE (fndE k (letE k E)) = x) (E' : List Ent) (hE : letE k E = E') (H : StoreSt w0 w S g me mc n nc now E C) :
    Calls Try.prog 16 #[.pointer (some ⟨g, 0, none⟩), .string k] w fun e w' => ∃ A2 A3 A4 n2 n3 n4 c2 c3 c4 S', e = .returned (.agg #[.int .u8 x.kind, .string x.s, .slice A2 n2 c2, .slice A3 n3 c3, .slice A4 n4 c4]) ∧ Aside0 (VR w' w.heap.size x A2 A3 A4 n2 n3 n4 c2 c3 c4) ∧ Aside0 (Post w0 w w' S g me mc n nc now E' C S') := by
  subst hE hx
  refine (s_get k hk H).mono ?_
  rintro e w' ⟨v2, v3, v4, S', rfl, hr, hp⟩
  obtain ⟨A2, c2, A3, c3, A4, c4, rfl, rfl, rfl, _⟩ := hr.out.parts
  exact ⟨A2, A3, A4, _, _, _, c2, c3, c4, S', rfl, ⟨rfl, rfl, rfl, hr.out⟩, hp⟩
end
theorem Post.keep {w0 w w1 : World} {S S' : Nat → Prop} {g me mc n nc q : Nat} {now : Int} {E : List Ent} {C : ByteArray → Int} {o : Obj} (hp : Post w0 w w1 S g me mc n nc now E C S') (hq : w.heap[q]? = some o) (hn : ¬ S q) : w1.heap[q]? = some o ∧ ¬ S' q :=
  ⟨(hp.kp.block q (pwlt hq) hn).trans hq, fun h => by
    rcases hp.new q h with h | h
    · exact hn h
    · have := pwlt hq
      omega⟩
theorem cells5 {w : World} {q : Nat} {a0 a1 a2 a3 a4 : Value} {t : TypeId} (h : w.heap[q]? = some (.cells #[a0, a1, a2, a3, a4] t (0, 0))) : w.cell? ⟨q, 0, none⟩ = some a0 ∧ w.cell? ⟨q, 1, none⟩ = some a1 ∧ w.cell? ⟨q, 2, none⟩ = some a2 ∧ w.cell? ⟨q, 3, none⟩ = some a3 ∧ w.cell? ⟨q, 4, none⟩ = some a4 := by
  refine ⟨?_, ?_, ?_, ?_, ?_⟩ <;> simp [World.cell?, h]
/-- Values as data. -/
def kVl : Kd Vl := Kd.iso (Kd.pair (Kd.int .u8) (Kd.pair Kd.string (Kd.pair (Kd.slice 9 Kd.string) (Kd.pair (Kd.slice 66 kPair) (Kd.slice 69 kMark))))) (fun x : Vl => (x.kind, x.s, x.l, x.h, x.z))
theorem kVl_open {w : World} {x : Vl} {cs : List Value} (h : kVl.K w x cs) : ∃ A2 A3 A4 n2 n3 n4 c2 c3 c4, cs = [.int .u8 x.kind, .string x.s, .slice A2 n2 c2, .slice A3 n3 c3, .slice A4 n4 c4] ∧ VC w x A2 A3 A4 n2 n3 n4 c2 c3 c4 := by
  obtain ⟨c0, r0, rfl, rfl, c1, r1, rfl, rfl, _, r2, rfl, ⟨A2, c2, rfl, l2, C2⟩, _, _, rfl, ⟨A3, c3, rfl, l3, C3⟩, A4, c4, rfl, l4, C4⟩ := h
  exact ⟨A2, A3, A4, _, _, _, c2, c3, c4, rfl, ⟨rfl, rfl, rfl, l2, l3, l4, C2, C3, C4⟩⟩
end Go.Proofs.Ytmhdkjihhdljlaa.X
