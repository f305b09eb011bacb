/- Plain: ValueOwn answers true. -/
import Derived.Test.YtbbgiedfkklojaaPSmall
import Derived.Test.YtbbgiedfkklojaaXx19
set_option linter.unusedVariables false
set_option linter.unusedSimpArgs false
namespace Go.Proofs.Ytbbgiedfkklojaa.X
open Go.RowKit Go.Lib Go.Proofs.YtbbgiedfkklojaaW.PrintWords Go.Proofs.YtbbgiedfkklojaaW.PrintMore

def addz (s : ByteArray) : ByteArray := s ++ (⟨#[122]⟩ : ByteArray)
def addP (s : S60) : S60 := ⟨s.f0, addz s.f1⟩
def addM (s : S62) : S62 := ⟨addz s.f0, s.f1⟩
theorem addz_ne (s : ByteArray) : addz s ≠ s := fun h => by
  have : (addz s).size = s.size := by rw [h]
  unfold addz at this
  rw [ByteArray.size_append] at this
  have e : (⟨#[122]⟩ : ByteArray).size = 1 := rfl
  omega
theorem map_ne {α : Type} (f : α → α) (hf : ∀ x, f x ≠ x) : ∀ l : List α, l.map f = l ↔ l = []
  | [] => by simp
  | a :: r => by
    constructor
    · intro h
      rw [List.map_cons] at h
      injection h with h _
      exact absurd h (hf a)
    · intro h; cases h
/-- The row behind i turns. -/
def turned {α : Type} (f : α → α) (l : List α) (i : Nat) : List α := (l.take i).map f ++ l.drop i
theorem turned_len {α : Type} (f : α → α) (l : List α) (i : Nat) : (turned f l i).length = l.length := by
  unfold turned; simp; omega
theorem turned_get {α : Type} (f : α → α) (l : List α) (i : Nat) (h : i < l.length) : (turned f l i)[i]'(by rw [turned_len]; exact h) = l[i] := by
  unfold turned
  rw [List.getElem_append_right (by simp; omega)]
  simp [Nat.min_eq_left (Nat.le_of_lt h)]
theorem turned_set {α : Type} (f : α → α) (l : List α) (i : Nat) (h : i < l.length) : (turned f l i).set i (f l[i]) = turned f l (i + 1) := by
  unfold turned
  have hl : ((l.take i).map f).length = i := by simp; omega
  rw [List.set_append_right _ _ (by omega), hl, Nat.sub_self, List.drop_eq_getElem_cons h, List.set_cons_zero, List.take_succ_eq_append_getElem h, List.map_append]
  simp
theorem turned_zero {α : Type} (f : α → α) (l : List α) : turned f l 0 = l := by simp [turned]
theorem turned_all {α : Type} (f : α → α) (l : List α) : turned f l l.length = l.map f := by simp [turned]

section
variable (x0 : Int) (x1 : ByteArray) (x2 : List ByteArray) (x3 : List S60) (x4 : List S62) (w0 : Int) (w1 : ByteArray) (w2 : List ByteArray) (w3 : List S60) (w4 : List S62) (c0 : Int) (c1 : ByteArray)
theorem own_l0 (L : List ByteArray) (c3 : List S60) (c4 : List S62) (hL : L.length ≤ 1000000) (hs : ∀ s ∈ L, s.size ≤ reachBytes) : ∀ (m k i : Nat), i + m = L.length →
    tipstafflaw09_ValueOwn.l0 (k + m + 1) (i : Int) x0 x1 x2 x3 x4 w0 w1 w2 w3 w4 c0 c1 (turned addz L i) c3 c4 = tipstafflaw09_ValueOwn.l1 k 0 x0 x1 x2 x3 x4 w0 w1 w2 w3 w4 c0 c1 (L.map addz) c3 c4 := by
  intro m
  induction m with
  | zero =>
    intro k i hi
    rw [tipstafflaw09_ValueOwn.l0, if_neg (by rw [turned_len]; omega)]
    obtain rfl : i = L.length := by omega
    rw [turned_all]
  | succ m ih =>
    intro k i hi
    have hil : i < L.length := by omega
    have hg : rdOf ByteArray.empty (turned addz L i) (i : Int) = L[i] := by rw [rdOf_get _ i (by rw [turned_len]; exact hil), turned_get addz L i hil]
    have hsz := hs _ (List.getElem_mem hil)
    rw [tipstafflaw09_ValueOwn.l0, if_pos (by rw [turned_len]; omega), if_pos (by omega), hg, if_pos (by unfold reachBytes at hsz; omega), show wrap64 ((i : Int) + 1) = ((i + 1 : Nat) : Int) by unfold wrap64; omega, Int.toNat_natCast]
    rw [show L[i] ++ (⟨#[122]⟩ : ByteArray) = addz L[i] from rfl, turned_set addz L i hil]
    exact ih k (i + 1) (by omega)
theorem own_l1 (c2 : List ByteArray) (L : List S60) (c4 : List S62) (hL : L.length ≤ 1000000) (hs : ∀ s ∈ L, s.f1.size ≤ reachBytes) : ∀ (m k i : Nat), i + m = L.length →
    tipstafflaw09_ValueOwn.l1 (k + m + 1) (i : Int) x0 x1 x2 x3 x4 w0 w1 w2 w3 w4 c0 c1 c2 (turned addP L i) c4 = tipstafflaw09_ValueOwn.l2 k 0 x0 x1 x2 x3 x4 w0 w1 w2 w3 w4 c0 c1 c2 (L.map addP) c4 := by
  intro m
  induction m with
  | zero =>
    intro k i hi
    rw [tipstafflaw09_ValueOwn.l1, if_neg (by rw [turned_len]; omega)]
    obtain rfl : i = L.length := by omega
    rw [turned_all]
  | succ m ih =>
    intro k i hi
    have hil : i < L.length := by omega
    have hg : rd_T60 (turned addP L i) (i : Int) = L[i] := by rw [rd_getPair _ i (by rw [turned_len]; exact hil), turned_get addP L i hil]
    have hsz := hs _ (List.getElem_mem hil)
    rw [tipstafflaw09_ValueOwn.l1, if_pos (by rw [turned_len]; omega), if_pos (by omega), hg, if_pos (by unfold reachBytes at hsz; omega), show wrap64 ((i : Int) + 1) = ((i + 1 : Nat) : Int) by unfold wrap64; omega, Int.toNat_natCast]
    rw [show (⟨L[i].f0, L[i].f1 ++ (⟨#[122]⟩ : ByteArray)⟩ : S60) = addP L[i] from rfl, turned_set addP L i hil]
    exact ih k (i + 1) (by omega)
theorem own_l2 (c2 : List ByteArray) (c3 : List S60) (L : List S62) (hL : L.length ≤ 1000000) (hs : ∀ s ∈ L, s.f0.size ≤ reachBytes) : ∀ (m k i : Nat), i + m = L.length →
    tipstafflaw09_ValueOwn.l2 (k + m + 1) (i : Int) x0 x1 x2 x3 x4 w0 w1 w2 w3 w4 c0 c1 c2 c3 (turned addM L i) = ((value_Same.f k x0 x1 x2 x3 x4 w0 w1 w2 w3 w4).bind fun t269 => (if t269 = true then ((value_Same.f k c0 c1 c2 c3 (L.map addM) x0 x1 x2 x3 x4).bind fun t270 => (some (t270 == ((wrap64 ((wrap64 ((x2.length : Int) + (x3.length : Int))) + (x4.length : Int))) == 0)))) else (some false))) := by
  intro m
  induction m with
  | zero =>
    intro k i hi
    rw [tipstafflaw09_ValueOwn.l2, if_neg (by rw [turned_len]; omega)]
    obtain rfl : i = L.length := by omega
    rw [turned_all]
  | succ m ih =>
    intro k i hi
    have hil : i < L.length := by omega
    have hg : rd_T62 (turned addM L i) (i : Int) = L[i] := by rw [rd_getMark _ i (by rw [turned_len]; exact hil), turned_get addM L i hil]
    have hsz := hs _ (List.getElem_mem hil)
    rw [tipstafflaw09_ValueOwn.l2, if_pos (by rw [turned_len]; omega), if_pos (by omega), hg, if_pos (by unfold reachBytes at hsz; omega), show wrap64 ((i : Int) + 1) = ((i + 1 : Nat) : Int) by unfold wrap64; omega, Int.toNat_natCast]
    rw [show (⟨L[i].f0 ++ (⟨#[122]⟩ : ByteArray), L[i].f1⟩ : S62) = addM L[i] from rfl, turned_set addM L i hil]
    exact ih k (i + 1) (by omega)
end

theorem same_self (k : Nat) (a0 : Int) (a1 : ByteArray) (a2 : List ByteArray) (a3 : List S60) (a4 : List S62) (h2 : a2.length ≤ 10) (h3 : a3.length ≤ 10) (h4 : a4.length ≤ 10) (hk : 10 < k) : value_Same.f k a0 a1 a2 a3 a4 a0 a1 a2 a3 a4 = some true := by
  obtain ⟨b, h, hi⟩ := same_f k a0 a1 a2 a3 a4 a0 a1 a2 a3 a4 (by omega) (by omega) (by omega) (by omega) (by omega) (by omega)
  rw [h, hi.2 ⟨rfl, rfl, rfl, rfl, rfl⟩]

theorem valueOwn_true (a0 : Int) (a1 : ByteArray) (l2 : List ByteArray) (l3 : List S60) (l4 : List S62)
    (s2 : ∀ s ∈ l2, s.size ≤ reachBytes) (s3 : ∀ s ∈ l3, s.f1.size ≤ reachBytes) (s4 : ∀ s ∈ l4, s.f0.size ≤ reachBytes) : ∃ k, tipstafflaw09_ValueOwn.f k a0 a1 l2 l3 l4 = some true := by
  obtain ⟨x2, e2⟩ : ∃ x, x = l2.take 10 := ⟨_, rfl⟩
  obtain ⟨x3, e3⟩ : ∃ x, x = l3.take 10 := ⟨_, rfl⟩
  obtain ⟨x4, e4⟩ : ∃ x, x = l4.take 10 := ⟨_, rfl⟩
  have n2 : x2.length ≤ 10 := by rw [e2, List.length_take]; omega
  have n3 : x3.length ≤ 10 := by rw [e3, List.length_take]; omega
  have n4 : x4.length ≤ 10 := by rw [e4, List.length_take]; omega
  have t2 : ∀ s ∈ x2, s.size ≤ reachBytes := fun s h => s2 s (List.mem_of_mem_take (e2 ▸ h))
  have t3 : ∀ s ∈ x3, s.f1.size ≤ reachBytes := fun s h => s3 s (List.mem_of_mem_take (e3 ▸ h))
  have t4 : ∀ s ∈ x4, s.f0.size ≤ reachBytes := fun s h => s4 s (List.mem_of_mem_take (e4 ▸ h))
  refine ⟨((11 + x4.length + 1) + x3.length + 1) + x2.length + 1 + 1, ?_⟩
  unfold tipstafflaw09_ValueOwn.f
  rw [small_f, ← e2, ← e3, ← e4]
  simp only [tipstafflaw09_shown.f, Option.bind_some]
  rw [own_f a0 a1 x2 x3 x4 (by omega) (by omega) (by omega)]
  simp only [Option.bind_some]
  rw [same_self _ a0 a1 x2 x3 x4 n2 n3 n4 (by omega)]
  simp only [Option.bind_some, if_true]
  rw [tipstafflaw09_ValueOwn.j0]
  simp only [Bool.not_true, Bool.false_eq_true, if_false]
  have r0 := own_l0 a0 a1 x2 x3 x4 a0 a1 x2 x3 x4 a0 a1 x2 x3 x4 (by omega) t2 x2.length ((11 + x4.length + 1) + x3.length + 1) 0 (by omega)
  rw [turned_zero] at r0
  have r1 := own_l1 a0 a1 x2 x3 x4 a0 a1 x2 x3 x4 a0 a1 (x2.map addz) x3 x4 (by omega) t3 x3.length (11 + x4.length + 1) 0 (by omega)
  rw [turned_zero] at r1
  have r2 := own_l2 a0 a1 x2 x3 x4 a0 a1 x2 x3 x4 a0 a1 (x2.map addz) (x3.map addP) x4 (by omega) t4 x4.length 11 0 (by omega)
  rw [turned_zero] at r2
  refine r0.trans (r1.trans (r2.trans ?_))
  rw [same_self 11 a0 a1 x2 x3 x4 n2 n3 n4 (by omega)]
  obtain ⟨b, h, hi⟩ := same_f 11 a0 a1 (x2.map addz) (x3.map addP) (x4.map addM) a0 a1 x2 x3 x4 (by simp; omega) (by simp; omega) (by simp; omega) (by simp; omega) (by simp; omega) (by simp; omega)
  rw [h]
  simp only [Option.bind_some, if_true]
  rw [map_ne addz addz_ne, map_ne addP (fun x hx => addz_ne x.f1 (by have := congrArg S60.f1 hx; exact this)), map_ne addM (fun x hx => addz_ne x.f0 (by have := congrArg S62.f0 hx; exact this))] at hi
  have hsum : wrap64 (wrap64 ((x2.length : Int) + (x3.length : Int)) + (x4.length : Int)) = (x2.length : Int) + (x3.length : Int) + (x4.length : Int) := by unfold wrap64; omega
  rw [hsum]
  congr 1
  rw [beq_iff_eq, Bool.eq_iff_iff, hi, beq_iff_eq]
  constructor
  · rintro ⟨_, _, h2, h3, h4⟩
    rw [h2, h3, h4]; rfl
  · intro hz
    exact ⟨rfl, rfl, List.eq_nil_of_length_eq_zero (by omega), List.eq_nil_of_length_eq_zero (by omega), List.eq_nil_of_length_eq_zero (by omega)⟩
end Go.Proofs.Ytbbgiedfkklojaa.X
