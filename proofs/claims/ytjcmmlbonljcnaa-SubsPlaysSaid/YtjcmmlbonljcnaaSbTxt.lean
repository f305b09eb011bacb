/- Small ones: names, whether a text is among some, whether rows are the same; and the state with what came before. -/
import Derived.Test.YtjcmmlbonljcnaaSbAdd
import Derived.Test.YtjcmmlbonljcnaaXx1
import Derived.IntWalk
set_option linter.unusedVariables false
set_option linter.unusedSimpArgs false
namespace Go.Proofs.Ytjcmmlbonljcnaa.X
open Go.RowKit Go.Maps Go.ChangeMaps Go.MapKept Go.Proofs.Ytjcmmlbonljcnaa.Mv Go.Proofs.YtjcmmlbonljcnaaW.PrintWords

theorem w64 {n : Int} (h0 : -1000000000 ≤ n) (h1 : n ≤ 1000000000) : wrap64 n = n := by unfold wrap64; omega
/-- A channel of 10 bytes at most. -/
def nameB (s : ByteArray) : ByteArray := s.extract 0 (mn (s.size : Int) 10).toNat
theorem nameB_size (s : ByteArray) : (nameB s).size ≤ 10 := by
  unfold nameB
  rw [ByteArray.size_extract]
  unfold mn
  split <;> omega
theorem name_any (s : ByteArray) (w : World) : Calls Try.prog 9 #[.string s] w fun e w' => e = .returned (.string (nameB s)) ∧ Aside0 (Below w.heap.size w w') := by
  refine (tipstafflaw22_name.calls s (nameB s) w ?_).mono ?_
  · unfold tipstafflaw22_name.f nameB
    have h : 0 ≤ mn (s.size : Int) 10 ∧ mn (s.size : Int) 10 ≤ s.size := by unfold mn; split <;> omega
    rw [if_pos h.1, if_pos h.2]
  · rintro e w' ⟨rfl, h⟩
    exact ⟨rfl, ⟨h⟩⟩
theorem ok_name {c : Int} (hc : (Lit.int .i64 c).wf = true) (s : ByteArray) : PrOk (c, nameB s) := ⟨hc, Nat.le_trans (nameB_size s) (by decide)⟩

theorem rdOf_at {l : List ByteArray} {i : Nat} (h : i < l.length) : rdOf ByteArray.empty l (i : Int) = l[i] := by
  unfold rdOf
  rw [Int.toNat_natCast, List.getD_eq_getElem?_getD, List.getElem?_eq_getElem h]
  rfl
theorem toList_iff {a b : ByteArray} : a.toList = b.toList ↔ a = b := ⟨fun e => ba_ext (by simpa [ByteArray.toList_eq] using e), fun e => by rw [e]⟩
theorem in_run (l : List ByteArray) (s : ByteArray) (hl : l.length ≤ 1000000) : ∀ (d i : Nat), l.length - i = d → i ≤ l.length → ∀ k, d < k → ∀ b : Bool, (b = true ↔ s ∈ l.drop i) → tipstaffref01_In.l0 k l s (i : Int) = some b := by
  intro d
  induction d with
  | zero =>
    intro i hd hi k hk b hb
    obtain ⟨k, rfl⟩ : ∃ k', k = k' + 1 := ⟨k - 1, by omega⟩
    simp only [tipstaffref01_In.l0]
    rw [List.drop_eq_nil_of_le (by omega)] at hb
    rw [if_neg (by omega)]
    cases b
    · rfl
    · exact absurd (hb.1 rfl) (by simp)
  | succ d ih =>
    intro i hd hi k hk b hb
    obtain ⟨k, rfl⟩ : ∃ k', k = k' + 1 := ⟨k - 1, by omega⟩
    have hlt : i < l.length := by omega
    simp only [tipstaffref01_In.l0]
    rw [List.drop_eq_getElem_cons hlt] at hb
    rw [if_pos (by omega), if_pos (by omega), rdOf_at hlt]
    by_cases e : l[i] = s
    · rw [if_pos (toList_iff.2 e), hb.2 (by rw [e]; exact List.mem_cons_self)]
    · rw [if_neg (fun h => e (toList_iff.1 h)), w64 (by omega) (by omega), show ((i : Int) + 1) = ((i + 1 : Nat) : Int) by omega]
      refine ih (i + 1) (by omega) (by omega) k (by omega) b ?_
      rw [hb, List.mem_cons]
      exact ⟨fun h => h.resolve_left (fun h => e h.symm), .inr⟩
theorem in_any (A : Option Addr) (c : Nat) (l : List ByteArray) (s : ByteArray) (q : Nat) (hq : l.length = q) (w : World) (h : Kd.C Kd.string w A l.length l) (hc : q ≤ c) (hl : q ≤ 1000000) (b : Bool) (hb : b = true ↔ s ∈ l) :
    Calls Try.prog 10 #[.slice A q c, .string s] w fun e w' => e = .returned (.bool b) ∧ Aside0 (Below w.heap.size w w') := by
  subst hq
  refine (tipstaffref01_In.calls (l.length + 1) A c l s b w h hc ?_).mono ?_
  · have := in_run l s hl l.length 0 rfl (by omega) (l.length + 1) (by omega) b (by simpa using hb)
    simpa [tipstaffref01_In.f] using this
  · rintro e w' ⟨rfl, hd⟩
    exact ⟨rfl, ⟨hd.below⟩⟩
theorem same_run (l : List ByteArray) (hl : l.length ≤ 1000000) : ∀ (d i : Nat), l.length - i = d → i ≤ l.length → ∀ k, d < k → tipstaffref01_Texts.l0 k l l (i : Int) = some true := by
  intro d
  induction d with
  | zero =>
    intro i hd hi k hk
    obtain ⟨k, rfl⟩ : ∃ k', k = k' + 1 := ⟨k - 1, by omega⟩
    simp only [tipstaffref01_Texts.l0]
    rw [if_neg (by omega)]
  | succ d ih =>
    intro i hd hi k hk
    obtain ⟨k, rfl⟩ : ∃ k', k = k' + 1 := ⟨k - 1, by omega⟩
    have hlt : i < l.length := by omega
    simp only [tipstaffref01_Texts.l0]
    rw [if_pos (by omega), if_pos (by omega), if_pos (by omega), if_pos trivial, w64 (by omega) (by omega)]
    exact ih (i + 1) (by omega) (by omega) k (by omega)
theorem texts_same (A B : Option Addr) (c d : Nat) (l : List ByteArray) (q r : Nat) (hq : l.length = q) (hr : l.length = r) (w : World) (h : Kd.C Kd.string w A l.length l) (hc : q ≤ c) (h' : Kd.C Kd.string w B l.length l) (hd : r ≤ d) (hl : q ≤ 1000000) :
    Calls Try.prog 13 #[.slice A q c, .slice B r d] w fun e w' => e = .returned (.bool true) ∧ Aside0 (Below w.heap.size w w') := by
  subst hq hr
  refine (tipstaffref01_Texts.calls (l.length + 1) A c l B d l true w h hc h' hd ?_).mono ?_
  · have := same_run l hl l.length 0 rfl (by omega) (l.length + 1) (by omega)
    simpa [tipstaffref01_Texts.f] using this
  · rintro e w' ⟨rfl, hd⟩
    exact ⟨rfl, ⟨hd.below⟩⟩
theorem ints_run (l : List Int) (hl : l.length ≤ 1000000) : ∀ (d i : Nat), l.length - i = d → i ≤ l.length → ∀ k, d < k → tipstaffref22_Ints.l0 k l l (i : Int) = some true := by
  intro d
  induction d with
  | zero =>
    intro i hd hi k hk
    obtain ⟨k, rfl⟩ : ∃ k', k = k' + 1 := ⟨k - 1, by omega⟩
    simp only [tipstaffref22_Ints.l0]
    rw [if_neg (by omega)]
  | succ d ih =>
    intro i hd hi k hk
    obtain ⟨k, rfl⟩ : ∃ k', k = k' + 1 := ⟨k - 1, by omega⟩
    have hlt : i < l.length := by omega
    simp only [tipstaffref22_Ints.l0]
    rw [if_pos (by omega), if_pos (by omega), if_pos (by omega), if_pos trivial, w64 (by omega) (by omega)]
    exact ih (i + 1) (by omega) (by omega) k (by omega)
theorem ints_same (A B : Option Addr) (c d : Nat) (l : List Int) (q r : Nat) (hq : l.length = q) (hr : l.length = r) (w : World) (h : Kd.C (Kd.int .i64) w A l.length l) (hc : q ≤ c) (h' : Kd.C (Kd.int .i64) w B l.length l) (hd : r ≤ d) (hl : q ≤ 1000000) :
    Calls Try.prog 21 #[.slice A q c, .slice B r d] w fun e w' => e = .returned (.bool true) ∧ Aside0 (Below w.heap.size w w') := by
  subst hq hr
  refine (tipstaffref22_Ints.calls (l.length + 1) A c l B d l true w h hc h' hd ?_).mono ?_
  · have := ints_run l hl l.length 0 rfl (by omega) (l.length + 1) (by omega)
    simpa [tipstaffref22_Ints.f] using this
  · rintro e w' ⟨rfl, hd⟩
    exact ⟨rfl, ⟨hd.below⟩⟩

/-! ### The state, beside what came before it -/
structure SubSt (w0 w : World) (g m n : Nat) (L : List Pr) : Prop where
  subs : SubsAt w g m n L
  below : Below w0.heap.size w0 w
  hg : w0.heap.size ≤ g
  hm : w0.heap.size ≤ m
theorem SubSt.next {w0 w w1 : World} {g m n : Nat} {L : List Pr} (h : SubSt w0 w g m n L) (hb : Below w.heap.size w w1) : SubSt w0 w1 g m n L :=
  ⟨h.subs.below hb, below_then h.below h.below.size hb, h.hg, h.hm⟩
/-- Another one, whose map has turned, leaves this one. -/
theorem SubSt.other {w0 w w1 : World} {g m n m' : Nat} {L : List Pr} (h : SubSt w0 w g m n L) (hk : Kp (· = m') w w1) (hg : g ≠ m') (hm : m ≠ m') (hm' : w0.heap.size ≤ m') : SubSt w0 w1 g m n L :=
  ⟨h.subs.kp hk hg hm, h.below.trans (hk.belowB h.below.size (fun k e => by subst e; exact hm')), h.hg, h.hm⟩
theorem len_of {c : Int} {L : List Pr} : (ofP c L).length ≤ L.length := by
  unfold ofP
  rw [List.length_map]
  exact List.length_filter_le _ _
theorem len_hear {s : ByteArray} {L : List Pr} : (hearP s L).length ≤ L.length := by
  unfold hearP
  rw [List.length_map]
  exact List.length_filter_le _ _

theorem new_s (w0 w : World) (hB : Below w0.heap.size w0 w) : Calls Try.prog 8 #[] w fun e w' => ∃ g m, e = .returned (.pointer (some ⟨g, 0, none⟩)) ∧ Aside0 (SubSt w0 w' g m 0 []) ∧ w.heap.size ≤ g ∧ w.heap.size ≤ m ∧ Aside0 (Below w.heap.size w w') := by
  refine (new_any w).mono ?_
  rintro e w' ⟨g, m, rfl, h1, h2, h3, h4⟩
  exact ⟨g, m, rfl, ⟨h1.out, below_then hB hB.size h4.out, Nat.le_trans hB.size h2, Nat.le_trans hB.size h3⟩, h2, h3, h4⟩
theorem add_s {w0 : World} (g m n : Nat) (L : List Pr) (c : Int) (t : ByteArray) (w : World) (H : SubSt w0 w g m n L) (hn : n < 1000000) (hp : PrOk (c, t)) (q : Nat) (hq : (ofP c (addP (c, t) L)).length = q) :
    Calls Try.prog 12 #[.pointer (some ⟨g, 0, none⟩), .int .i64 c, .string t] w fun e w' => e = .returned (.int .i64 q) ∧ Aside0 (SubSt w0 w' g m (n + 1) (addP (c, t) L)) ∧ Aside0 (Kp (· = m) w w') := by
  subst hq
  refine (add_any g m n L c t w H.subs hn hp).mono ?_
  rintro e w' ⟨rfl, h1, h2⟩
  exact ⟨rfl, ⟨h1.out, H.below.trans (h2.out.belowB H.below.size (fun k e => by subst e; exact H.hm)), H.hg, H.hm⟩, h2⟩
theorem remove_s {w0 : World} (g m n : Nat) (L : List Pr) (c : Int) (t : ByteArray) (w : World) (H : SubSt w0 w g m n L) (hn : n ≤ 1000000) (hp : PrOk (c, t)) (q : Nat) (hq : (ofP c (remP (c, t) L)).length = q) :
    Calls Try.prog 14 #[.pointer (some ⟨g, 0, none⟩), .int .i64 c, .string t] w fun e w' => e = .returned (.int .i64 q) ∧ Aside0 (SubSt w0 w' g m n (remP (c, t) L)) ∧ Aside0 (Kp (· = m) w w') := by
  subst hq
  refine (remove_any g m n L c t w H.subs hn hp).mono ?_
  rintro e w' ⟨rfl, h1, h2⟩
  exact ⟨rfl, ⟨h1.out, H.below.trans (h2.out.belowB H.below.size (fun k e => by subst e; exact H.hm)), H.hg, H.hm⟩, h2⟩
theorem drop_s {w0 : World} (g m n : Nat) (L : List Pr) (c : Int) (w : World) (H : SubSt w0 w g m n L) :
    Calls Try.prog 17 #[.pointer (some ⟨g, 0, none⟩), .int .i64 c] w fun e w' => e = .returned (.tuple #[]) ∧ Aside0 (SubSt w0 w' g m n (dropP c L)) ∧ Aside0 (Kp (· = m) w w') := by
  refine (drop_any g m n L c w H.subs).mono ?_
  rintro e w' ⟨rfl, h1, h2⟩
  exact ⟨rfl, ⟨h1.out, H.below.trans (h2.out.belowB H.below.size (fun k e => by subst e; exact H.hm)), H.hg, H.hm⟩, h2⟩
theorem of_s {w0 : World} (g m n : Nat) (L : List Pr) (c : Int) (w : World) (H : SubSt w0 w g m n L) (hn : n ≤ 1000000) (l : List ByteArray) (hl : ofP c L = l) (q : Nat) (hq : l.length = q) :
    Calls Try.prog 11 #[.pointer (some ⟨g, 0, none⟩), .int .i64 c] w fun e w' => ∃ A k, e = .returned (.slice A q k) ∧ q ≤ k ∧ Aside0 (Kd.C Kd.string w' A l.length l) ∧ Aside0 (SubSt w0 w' g m n L) ∧ Aside0 (Below w.heap.size w w') := by
  subst hl hq
  refine (of_any g m n L c w H.subs hn).mono ?_
  rintro e w' ⟨A, k, rfl, h1, h2, h3⟩
  exact ⟨A, k, rfl, h1, h2, ⟨H.next h3.out⟩, h3⟩
theorem hear_s {w0 : World} (g m n : Nat) (L : List Pr) (s : ByteArray) (w : World) (H : SubSt w0 w g m n L) (hn : n ≤ 1000000) (l : List Int) (hl : hearP s L = l) (q : Nat) (hq : l.length = q) :
    Calls Try.prog 15 #[.pointer (some ⟨g, 0, none⟩), .string s] w fun e w' => ∃ A k, e = .returned (.slice A q k) ∧ q ≤ k ∧ Aside0 (Kd.C (Kd.int .i64) w' A l.length l) ∧ Aside0 (SubSt w0 w' g m n L) ∧ Aside0 (Below w.heap.size w w') := by
  subst hl hq
  refine (hear_any g m n L s w H.subs hn).mono ?_
  rintro e w' ⟨A, k, rfl, h1, h2, h3⟩
  exact ⟨A, k, rfl, h1, h2, ⟨H.next h3.out⟩, h3⟩
end Go.Proofs.Ytjcmmlbonljcnaa.X
