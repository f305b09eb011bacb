/- What value.Right gives, in the printed shape, of a list or a set with nothing else (what the documents' examples ask). -/
import Derived.Test.YtbbgiedfkklojaaPVal1
import Derived.Test.YtbbgiedfkklojaaERises
import Derived.Deep.RegionWith
import Derived.Deep.RegionHeld3
import Derived.Deep.RegionLaw
set_option linter.unusedVariables false
set_option linter.unusedSimpArgs false
namespace Go.Proofs.Ytbbgiedfkklojaa.X
open Go.RowKit Go.Lib Go.Proofs.YtbbgiedfkklojaaW.PrintWords

theorem C_none {α : Type} (d : Kd α) (w : World) : Kd.C d w none ([] : List α).length [] := ⟨rfl, by simp, fun h => absurd h (by simp)⟩

theorem same_list (t : Int) (A : Option Addr) (c : Nat) (l : List ByteArray) (A3 : Option Addr) (c3 : Nat) (A4 : Option Addr) (c4 : Nat) (w : World) (hr : Kd.C Kd.string w A l.length l) (hc : l.length ≤ c) (hl : l.length ≤ 1000000) :
    Calls Try.prog 23 #[.agg #[.int .u8 t, .string ⟨#[]⟩, .slice A l.length c, .slice A3 0 c3, .slice A4 0 c4], .agg #[.int .u8 t, .string ⟨#[]⟩, .slice A l.length c, .slice none 0 0, .slice none 0 0]] w fun e w' => e = .returned (.bool true) ∧ Below w.heap.size w w' := by
  obtain ⟨b, hb, hi⟩ := same_f 1000001 t ⟨#[]⟩ l [] [] t ⟨#[]⟩ l [] [] hl (by simp) (by simp) (by omega) (by simp) (by simp)
  obtain rfl : b = true := hi.2 ⟨rfl, rfl, rfl, rfl, rfl⟩
  have e0 : ∀ {α : Type} (d : Kd α) (A : Option Addr), Kd.C d w A ([] : List α).length [] := fun d A => ⟨rfl, by simp, fun h => absurd h (by simp)⟩
  exact value_Same.calls 1000001 t ⟨#[]⟩ A c l A3 c3 [] A4 c4 [] t ⟨#[]⟩ A c l none 0 [] none 0 [] true w hr hc (e0 _ _) (by simp) (e0 _ _) (by simp) hr hc (e0 _ _) (by simp) (e0 _ _) (by simp) hb

set_option maxHeartbeats 1000000 in
set_option maxRecDepth 100000 in
theorem right_list (A0_2 : Option Addr) (c0_2 : Nat) (l0_2 : List ByteArray) (A0_3 : Option Addr) (c0_3 : Nat) (A0_4 : Option Addr) (c0_4 : Nat) (w : World) (hr0_2 : Kd.C Kd.string w A0_2 l0_2.length l0_2) (hc0_2 : l0_2.length ≤ c0_2) (hl : l0_2.length ≤ 1000000) :
    Calls Try.prog 42 #[.agg #[.int .u8 2, .string ⟨#[]⟩, .slice A0_2 l0_2.length c0_2, .slice A0_3 0 c0_3, .slice A0_4 0 c0_4]] w fun e w' => e = .returned (.bool (decide (0 < l0_2.length))) ∧ Below w.heap.size w w' := by
  have HR := Aside0.mk hr0_2
  clear hr0_2
  by_cases h0 : 0 < l0_2.length
  · have hd : decide (0 < l0_2.length) = true := decide_eq_true h0
    go_enter Try.func42, Try.ntmps42
    go_wp2
    go_region
    go_wp2_with (go_at_call 23; (with_reducible refine (same_list 2 A0_2 c0_2 l0_2 A0_3 c0_3 A0_4 c0_4 _ ?l1 hc0_2 hl).mono ?_); (case l1 => exact Kd.C_below HR.out (by repeat (first | exact Below.refl _ _ | apply below_alloc | apply pw_below_drewN | apply below_drew | (refine below_set ?_ (Nat.le_succ _))))); rintro e w5 ⟨rfl, hb⟩; have HB := Aside0.mk hb; clear hb)
    go_ret
    exact ⟨by rw [hd] <;> rfl, below_then (by repeat (first | exact Below.refl _ _ | apply below_alloc | apply pw_below_drewN | apply below_drew | (refine below_set ?_ (Nat.le_succ _)))) (Below.size (by repeat (first | exact Below.refl _ _ | apply below_alloc | apply pw_below_drewN | apply below_drew | (refine below_set ?_ (Nat.le_succ _))))) HB.out⟩
  · have hd : decide (0 < l0_2.length) = false := decide_eq_false h0
    go_enter Try.func42, Try.ntmps42
    go_wp2
    go_region
    go_wp2
    go_ret
    exact ⟨by rw [hd] <;> rfl, (by repeat (first | exact Below.refl _ _ | apply below_alloc | apply pw_below_drewN | apply below_drew | (refine below_set ?_ (Nat.le_succ _))))⟩

set_option maxHeartbeats 1000000 in
set_option maxRecDepth 100000 in
theorem right_set (A0_2 : Option Addr) (c0_2 : Nat) (l0_2 : List ByteArray) (A0_3 : Option Addr) (c0_3 : Nat) (A0_4 : Option Addr) (c0_4 : Nat) (w : World) (hr0_2 : Kd.C Kd.string w A0_2 l0_2.length l0_2) (hc0_2 : l0_2.length ≤ c0_2) (hl : l0_2.length ≤ 1000000) :
    Calls Try.prog 42 #[.agg #[.int .u8 4, .string ⟨#[]⟩, .slice A0_2 l0_2.length c0_2, .slice A0_3 0 c0_3, .slice A0_4 0 c0_4]] w fun e w' => e = .returned (.bool (decide (0 < l0_2.length) && risesB l0_2)) ∧ Below w.heap.size w w' := by
  have HR := Aside0.mk hr0_2
  clear hr0_2
  by_cases h0 : 0 < l0_2.length
  · have hd : decide (0 < l0_2.length) = true := decide_eq_true h0
    obtain ⟨rb, hrb⟩ : ∃ rb, rb = risesB l0_2 := ⟨_, rfl⟩
    rw [← hrb]
    have HRB := Aside0.mk hrb
    clear hrb
    cases rb with
    | true =>
      go_enter Try.func42, Try.ntmps42
      go_wp2_with fail
      go_region_with ((go_at_call 63; (with_reducible refine (rises_string A0_2 c0_2 l0_2 _ ?l1 hc0_2).mono ?_); (case l1 => exact Kd.C_below HR.out (by repeat (first | exact Below.refl _ _ | apply below_alloc | apply pw_below_drewN | apply below_drew | (refine below_set ?_ (Nat.le_succ _))))); rintro e w5 ⟨rfl, ⟨m5, rfl⟩⟩; rw [← HRB.out]))
      all_goals (go_wp2_with (go_at_call 23; (with_reducible refine (same_list 4 A0_2 c0_2 l0_2 A0_3 c0_3 A0_4 c0_4 _ ?l1 hc0_2 hl).mono ?_); (case l1 => exact Kd.C_below HR.out (by repeat (first | exact Below.refl _ _ | apply below_alloc | apply pw_below_drewN | apply below_drew | (refine below_set ?_ (Nat.le_succ _))))); rintro e w5 ⟨rfl, hb⟩; have HB := Aside0.mk hb; clear hb))
      all_goals go_ret
      all_goals exact ⟨by rw [hd] <;> rfl, below_then (by repeat (first | exact Below.refl _ _ | apply below_alloc | apply pw_below_drewN | apply below_drew | (refine below_set ?_ (Nat.le_succ _)))) (Below.size (by repeat (first | exact Below.refl _ _ | apply below_alloc | apply pw_below_drewN | apply below_drew | (refine below_set ?_ (Nat.le_succ _))))) HB.out⟩
    | false =>
      go_enter Try.func42, Try.ntmps42
      go_wp2_with fail
      go_region_with ((go_at_call 63; (with_reducible refine (rises_string A0_2 c0_2 l0_2 _ ?l1 hc0_2).mono ?_); (case l1 => exact Kd.C_below HR.out (by repeat (first | exact Below.refl _ _ | apply below_alloc | apply pw_below_drewN | apply below_drew | (refine below_set ?_ (Nat.le_succ _))))); rintro e w5 ⟨rfl, ⟨m5, rfl⟩⟩; rw [← HRB.out]))
      all_goals go_wp2
      all_goals go_ret
      all_goals exact ⟨by rw [hd] <;> rfl, (by repeat (first | exact Below.refl _ _ | apply below_alloc | apply pw_below_drewN | apply below_drew | (refine below_set ?_ (Nat.le_succ _))))⟩
  · have hd : decide (0 < l0_2.length) = false := decide_eq_false h0
    go_enter Try.func42, Try.ntmps42
    go_wp2
    go_region
    go_wp2
    go_ret
    exact ⟨by rw [hd] <;> rfl, (by repeat (first | exact Below.refl _ _ | apply below_alloc | apply pw_below_drewN | apply below_drew | (refine below_set ?_ (Nat.le_succ _))))⟩
end Go.Proofs.Ytbbgiedfkklojaa.X
