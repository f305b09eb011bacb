/- Both side by side: the program's Subs and the document's. -/
import Derived.Test.YtjcmmlbonljcnaaRfAdd
set_option linter.unusedVariables false
set_option linter.unusedSimpArgs false
namespace Go.Proofs.Ytjcmmlbonljcnaa.X
open Go.RowKit Go.Maps Go.ChangeMaps Go.MapKept Go.Proofs.Ytjcmmlbonljcnaa.Mv Go.Proofs.YtjcmmlbonljcnaaW.PrintWords

structure Mix (w0 w : World) (g m n r : Nat) (L1 L2 : List Pr) : Prop where
  subs : SubSt w0 w g m n L1
  rf : RfAt w w0.heap.size r L2
  hr : w0.heap.size ≤ r
  rg : r ≠ g
  rm : r ≠ m
theorem RfAt.kp {w w1 : World} {b r m n : Nat} {L : List Pr} {M : Lit → Option Value} (h : RfAt w b r L) (hk : Kp (· = m) w w1) (hr : r ≠ m) (hM : MapV Try.prog 52 w m n M) : RfAt w1 b r L := by
  obtain ⟨v, h1, h2⟩ := h.row
  refine ⟨v, (hk.block r (pwlt h1) hr).trans h1, Kd.R_mono (Kd.R_move (Kd.R_bound h2) (fun k hb => ?_)) (fun _ h => h.1)⟩
  obtain ⟨_, _, hlt, q, _, cells, hc⟩ := hb
  refine hk.block k hlt (fun e => ?_)
  subst e
  exact MapV.noobj hM _ _ _ hc
abbrev K2 (m r : Nat) := fun k : Nat => k = m ∨ k = r
variable {w0 w : World} {g m n r : Nat} {L1 L2 : List Pr}
theorem Mix.next {w1 : World} (h : Mix w0 w g m n r L1 L2) (hb : Below w.heap.size w w1) : Mix w0 w1 g m n r L1 L2 := ⟨h.subs.next hb, h.rf.below hb, h.hr, h.rg, h.rm⟩
theorem Mix.mono {n' : Nat} (h : Mix w0 w g m n r L1 L2) (hn : n ≤ n') : Mix w0 w g m n' r L1 L2 := ⟨⟨h.subs.subs.mono hn, h.subs.below, h.subs.hg, h.subs.hm⟩, h.rf, h.hr, h.rg, h.rm⟩
theorem Mix.len (h : Mix w0 w g m n r L1 L2) : L1.length ≤ n := h.subs.subs.2.choose_spec.2.2.2.2
theorem Mix.of_m {w1 : World} {L : List Pr} {n' : Nat} (h : Mix w0 w g m n r L1 L2) (hs : SubSt w0 w1 g m n' L) (hk : Kp (· = m) w w1) : Mix w0 w1 g m n' r L L2 := by
  obtain ⟨M, hM, _⟩ := h.subs.subs.2
  exact ⟨hs, h.rf.kp hk h.rm hM, h.hr, h.rg, h.rm⟩
theorem Mix.of_r {w1 : World} {L : List Pr} (h : Mix w0 w g m n r L1 L2) (hs : RfAt w1 w0.heap.size r L) (hk : Kp (· = r) w w1) : Mix w0 w1 g m n r L1 L :=
  ⟨h.subs.other hk (Ne.symm h.rg) (Ne.symm h.rm) h.hr, hs, h.hr, h.rg, h.rm⟩
theorem m_remove (c : Int) (t : ByteArray) (H : Mix w0 w g m n r L1 L2) (hn : n ≤ 1000) (hp : PrOk (c, t)) (q : Nat) (hq : (ofP c (remP (c, t) L1)).length = q) :
    Calls Try.prog 14 #[.pointer (some ⟨g, 0, none⟩), .int .i64 c, .string t] w fun e w' => e = .returned (.int .i64 q) ∧ Aside0 (Mix w0 w' g m n r (remP (c, t) L1) L2) ∧ Aside0 (Kp (K2 m r) w w') := by
  refine (remove_s g m n L1 c t w H.subs (by omega) hp q hq).mono ?_
  rintro e w' ⟨rfl, h1, h2⟩
  exact ⟨rfl, ⟨H.of_m h1.out h2.out⟩, ⟨h2.out.mono fun _ h => .inl h⟩⟩
theorem m_add (c : Int) (t : ByteArray) (H : Mix w0 w g m n r L1 L2) (hn : n ≤ 1000) (hp : PrOk (c, t)) (q : Nat) (hq : (ofP c (addP (c, t) L1)).length = q) :
    Calls Try.prog 12 #[.pointer (some ⟨g, 0, none⟩), .int .i64 c, .string t] w fun e w' => e = .returned (.int .i64 q) ∧ Aside0 (Mix w0 w' g m (n + 1) r (addP (c, t) L1) L2) ∧ Aside0 (Kp (K2 m r) w w') := by
  refine (add_s g m n L1 c t w H.subs (by omega) hp q hq).mono ?_
  rintro e w' ⟨rfl, h1, h2⟩
  exact ⟨rfl, ⟨H.of_m h1.out h2.out⟩, ⟨h2.out.mono fun _ h => .inl h⟩⟩
theorem m_drop (c : Int) (H : Mix w0 w g m n r L1 L2) :
    Calls Try.prog 17 #[.pointer (some ⟨g, 0, none⟩), .int .i64 c] w fun e w' => e = .returned (.tuple #[]) ∧ Aside0 (Mix w0 w' g m n r (dropP c L1) L2) ∧ Aside0 (Kp (K2 m r) w w') := by
  refine (drop_s g m n L1 c w H.subs).mono ?_
  rintro e w' ⟨rfl, h1, h2⟩
  exact ⟨rfl, ⟨H.of_m h1.out h2.out⟩, ⟨h2.out.mono fun _ h => .inl h⟩⟩
theorem r_remove (c : Int) (t : ByteArray) (H : Mix w0 w g m n r L1 L2) (hn : L2.length ≤ 1000) (q : Nat) (hq : (ofP c (remP (c, t) L2)).length = q) :
    Calls Try.prog 16 #[.pointer (some ⟨r, 0, none⟩), .int .i64 c, .string t] w fun e w' => e = .returned (.int .i64 q) ∧ Aside0 (Mix w0 w' g m n r L1 (remP (c, t) L2)) ∧ Aside0 (Kp (K2 m r) w w') := by
  refine (rremove_any _ r L2 c t w H.rf (by omega) H.subs.below.size q hq).mono ?_
  rintro e w' ⟨rfl, h1, h2⟩
  exact ⟨rfl, ⟨H.of_r h1.out h2.out⟩, ⟨h2.out.mono fun _ h => .inr h⟩⟩
theorem r_add (c : Int) (t : ByteArray) (H : Mix w0 w g m n r L1 L2) (hn : L2.length ≤ 1000) (q : Nat) (hq : (ofP c (addP (c, t) L2)).length = q) :
    Calls Try.prog 19 #[.pointer (some ⟨r, 0, none⟩), .int .i64 c, .string t] w fun e w' => e = .returned (.int .i64 q) ∧ Aside0 (Mix w0 w' g m n r L1 (addP (c, t) L2)) ∧ Aside0 (Kp (K2 m r) w w') := by
  refine (radd_any _ r L2 c t w H.rf (by omega) H.subs.below.size q hq).mono ?_
  rintro e w' ⟨rfl, h1, h2⟩
  exact ⟨rfl, ⟨H.of_r h1.out h2.out⟩, ⟨h2.out.mono fun _ h => .inr h⟩⟩
theorem r_drop (c : Int) (H : Mix w0 w g m n r L1 L2) (hn : L2.length ≤ 1000) :
    Calls Try.prog 18 #[.pointer (some ⟨r, 0, none⟩), .int .i64 c] w fun e w' => e = .returned (.tuple #[]) ∧ Aside0 (Mix w0 w' g m n r L1 (dropP c L2)) ∧ Aside0 (Kp (K2 m r) w w') := by
  refine (rdrop_any _ r L2 c w H.rf (by omega) H.subs.below.size).mono ?_
  rintro e w' ⟨rfl, h1, h2⟩
  exact ⟨rfl, ⟨H.of_r h1.out h2.out⟩, ⟨h2.out.mono fun _ h => .inr h⟩⟩
theorem m_of (c : Int) (H : Mix w0 w g m n r L1 L2) (hn : n ≤ 1000) (l : List ByteArray) (hl : ofP c L1 = l) (q : Nat) (hq : l.length = q) :
    Calls Try.prog 11 #[.pointer (some ⟨g, 0, none⟩), .int .i64 c] w fun e w' => ∃ A k, e = .returned (.slice A q k) ∧ q ≤ k ∧ Aside0 (Kd.C Kd.string w' A l.length l) ∧ Aside0 (Mix w0 w' g m n r L1 L2) ∧ Aside0 (Below w.heap.size w w') := by
  refine (of_s g m n L1 c w H.subs (by omega) l hl q hq).mono ?_
  rintro e w' ⟨A, k, rfl, h1, h2, _, h4⟩
  exact ⟨A, k, rfl, h1, h2, ⟨H.next h4.out⟩, h4⟩
theorem m_hear (s : ByteArray) (H : Mix w0 w g m n r L1 L2) (hn : n ≤ 1000) (l : List Int) (hl : hearP s L1 = l) (q : Nat) (hq : l.length = q) :
    Calls Try.prog 15 #[.pointer (some ⟨g, 0, none⟩), .string s] w fun e w' => ∃ A k, e = .returned (.slice A q k) ∧ q ≤ k ∧ Aside0 (Kd.C (Kd.int .i64) w' A l.length l) ∧ Aside0 (Mix w0 w' g m n r L1 L2) ∧ Aside0 (Below w.heap.size w w') := by
  refine (hear_s g m n L1 s w H.subs (by omega) l hl q hq).mono ?_
  rintro e w' ⟨A, k, rfl, h1, h2, _, h4⟩
  exact ⟨A, k, rfl, h1, h2, ⟨H.next h4.out⟩, h4⟩
theorem r_of (c : Int) (H : Mix w0 w g m n r L1 L2) (hn : L2.length ≤ 1000) (l : List ByteArray) (hl : ofP c L2 = l) (q : Nat) (hq : l.length = q) :
    Calls Try.prog 20 #[.pointer (some ⟨r, 0, none⟩), .int .i64 c] w fun e w' => ∃ A k, e = .returned (.slice A q k) ∧ q ≤ k ∧ Aside0 (Kd.C Kd.string w' A l.length l) ∧ Aside0 (Mix w0 w' g m n r L1 L2) ∧ Aside0 (Below w.heap.size w w') := by
  refine (rof_any _ r L2 c w H.rf (by omega) l hl q hq).mono ?_
  rintro e w' ⟨A, k, rfl, h1, h2, h4⟩
  exact ⟨A, k, rfl, h1, h2, ⟨H.next h4.out⟩, h4⟩
theorem r_hear (s : ByteArray) (H : Mix w0 w g m n r L1 L2) (hn : L2.length ≤ 1000) (l : List Int) (hl : hearP s L2 = l) (q : Nat) (hq : l.length = q) :
    Calls Try.prog 22 #[.pointer (some ⟨r, 0, none⟩), .string s] w fun e w' => ∃ A k, e = .returned (.slice A q k) ∧ q ≤ k ∧ Aside0 (Kd.C (Kd.int .i64) w' A l.length l) ∧ Aside0 (Mix w0 w' g m n r L1 L2) ∧ Aside0 (Below w.heap.size w w') := by
  refine (rhear_any _ r L2 s w H.rf (by omega) l hl q hq).mono ?_
  rintro e w' ⟨A, k, rfl, h1, h2, h4⟩
  exact ⟨A, k, rfl, h1, h2, ⟨H.next h4.out⟩, h4⟩
end Go.Proofs.Ytjcmmlbonljcnaa.X
