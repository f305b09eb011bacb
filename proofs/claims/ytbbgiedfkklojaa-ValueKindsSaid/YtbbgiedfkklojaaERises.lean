/- What value.rises gives of a row of texts, with the order of cmp.Compare. -/
import Derived.Test.YtbbgiedfkklojaaXx1
import Derived.LoopTactic
import Derived.Laws.Cover1
import Derived.IntWalk
import Derived.Deep.LoopGhost
import Derived.Deep.QuietTactic
import Derived.BigQuiet
set_option linter.unusedVariables false
set_option linter.unusedSimpArgs false
namespace Go.Proofs.Ytbbgiedfkklojaa.X
open Go.RowKit Go.Lib Go.Proofs.YtbbgiedfkklojaaW.PrintWords

def ltB (a b : ByteArray) : Bool := Op.bytesLess a.toList b.toList
def risesB : List ByteArray → Bool
  | a :: b :: r => ltB a b && risesB (b :: r)
  | _ => true

def cmpB (a b : ByteArray) : Int := if ltB a b = true then -1 else if (a.toList == b.toList) = true then 0 else 1
theorem cmpB_iff (a b : ByteArray) : (0 ≤ cmpB a b ∧ ltB a b = false) ∨ (cmpB a b < 0 ∧ ltB a b = true) := by
  unfold cmpB
  by_cases h : ltB a b = true
  · exact .inr ⟨by rw [if_pos h]; decide, h⟩
  · rw [if_neg h]
    refine .inl ⟨?_, by simpa using h⟩
    by_cases h2 : (a.toList == b.toList) = true
    · rw [if_pos h2]; decide
    · rw [if_neg h2]; decide

set_option maxHeartbeats 1000000 in
set_option maxRecDepth 100000 in
theorem cmp_calls (a0 a1 : ByteArray) (w : World) : Calls Try.prog 64 #[.string a0, .string a1] w fun e w' => e = .returned (.int .i64 (cmpB a0 a1)) ∧ Drawn0 w w' := by
  have n0 : cmp_isNaN_string.f a0 = some false := by unfold cmp_isNaN_string.f; simp
  have n1 : cmp_isNaN_string.f a1 = some false := by unfold cmp_isNaN_string.f; simp
  have N0 := Aside0.mk n0
  have N1 := Aside0.mk n1
  clear n0 n1
  unfold cmpB ltB
  by_cases h : Op.bytesLess a0.toList a1.toList = true
  · rw [if_pos h]
    go_enter Try.func64, Try.ntmps64
    go_wp2_with (first
      | (go_at_call 75; (with_reducible refine (cmp_isNaN_string.calls a0 false _ N0.out).mono ?_); rintro e w5 ⟨rfl, ⟨m5, rfl⟩⟩)
      | (go_at_call 75; (with_reducible refine (cmp_isNaN_string.calls a1 false _ N1.out).mono ?_); rintro e w5 ⟨rfl, ⟨m5, rfl⟩⟩))
    go_ret
    exact ⟨rfl, by repeat (first | exact Drawn0.refl _ | apply Drawn0.step)⟩
  · rw [if_neg h]
    have h' : Op.bytesLess a0.toList a1.toList = false := by simpa using h
    clear h
    by_cases h2 : (a0.toList == a1.toList) = true
    · rw [if_pos h2]
      go_enter Try.func64, Try.ntmps64
      go_wp2_with (first
        | (go_at_call 75; (with_reducible refine (cmp_isNaN_string.calls a0 false _ N0.out).mono ?_); rintro e w5 ⟨rfl, ⟨m5, rfl⟩⟩)
        | (go_at_call 75; (with_reducible refine (cmp_isNaN_string.calls a1 false _ N1.out).mono ?_); rintro e w5 ⟨rfl, ⟨m5, rfl⟩⟩))
      go_ret
      exact ⟨rfl, by repeat (first | exact Drawn0.refl _ | apply Drawn0.step)⟩
    · rw [if_neg h2]
      have h3 : (a0.toList == a1.toList) = false := by simpa using h2
      clear h2
      go_enter Try.func64, Try.ntmps64
      go_wp2_with (first
        | (go_at_call 75; (with_reducible refine (cmp_isNaN_string.calls a0 false _ N0.out).mono ?_); rintro e w5 ⟨rfl, ⟨m5, rfl⟩⟩)
        | (go_at_call 75; (with_reducible refine (cmp_isNaN_string.calls a1 false _ N1.out).mono ?_); rintro e w5 ⟨rfl, ⟨m5, rfl⟩⟩))
      go_ret
      exact ⟨rfl, by repeat (first | exact Drawn0.refl _ | apply Drawn0.step)⟩

def cmp_Compare_string.f (a0 a1 : ByteArray) : Option Int := some (cmpB a0 a1)
theorem cmp_Compare_string.calls (a0 : ByteArray) (a1 : ByteArray) (r : Int) (w : World) (h : cmp_Compare_string.f a0 a1 = some r) :
    Calls Try.prog 64 #[.string a0, .string a1] w fun e w' => e = .returned (.int .i64 r) ∧ Drawn0 w w' := by
  obtain rfl : cmpB a0 a1 = r := Option.some.inj h
  exact cmp_calls a0 a1 w

theorem rises_step (l : List ByteArray) (i : Nat) (h : i + 1 < l.length) : risesB (l.drop i) = (ltB (rdOf ByteArray.empty l (i : Int)) (rdOf ByteArray.empty l ((i : Int) + 1)) && risesB (l.drop (i + 1))) := by
  have e1 : l.drop i = l[i] :: l.drop (i + 1) := List.drop_eq_getElem_cons (by omega)
  have e2 : l.drop (i + 1) = l[i + 1] :: l.drop (i + 1 + 1) := List.drop_eq_getElem_cons h
  rw [e1, e2]
  have r1 : rdOf ByteArray.empty l (i : Int) = l[i] := by unfold rdOf; rw [Int.toNat_natCast, List.getD_eq_getElem?_getD, List.getElem?_eq_getElem (by omega)]; rfl
  have r2 : rdOf ByteArray.empty l ((i : Int) + 1) = l[i + 1] := by unfold rdOf; rw [show ((i : Int) + 1).toNat = i + 1 by omega, List.getD_eq_getElem?_getD, List.getElem?_eq_getElem h]; rfl
  rw [r1, r2]
  rfl
theorem rises_end (l : List ByteArray) (i : Nat) (h : l.length ≤ i + 1) : risesB (l.drop i) = true := by
  have hl : (l.drop i).length ≤ 1 := by rw [List.length_drop]; omega
  match h2 : l.drop i with
  | [] => rfl
  | [_] => rfl
  | _ :: _ :: _ => rw [h2] at hl; simp at hl

set_option maxHeartbeats 1000000 in
set_option maxRecDepth 100000 in
theorem rises_string (A : Option Addr) (c : Nat) (l : List ByteArray) (w : World) (hr : Kd.C Kd.string w A l.length l) (hc : l.length ≤ c) :
    Calls Try.prog 63 #[.slice A l.length c, .func (.func 64) #[] #[]] w fun e w' => e = .returned (.bool (risesB l)) ∧ Drawn0 w w' := by
  have HR := Aside0.mk hr
  clear hr
  by_cases h0 : l.length ≤ 1
  · have hB := Aside0.mk (rises_end l 0 (by omega))
    have q1 : (l.length : Int) ≤ 1 := by omega
    go_enter Try.func63, Try.ntmps63
    go_wp2
    all_goals
      go_loop [12] (fun v => v = .int .i64 0) (fun _ => 0)
      case atStart => rfl
      case round =>
        obtain rfl := hrel
        go_wp2
        go_ret
        exact ⟨by have h_ : risesB l = true := hB.out; rw [h_] <;> rfl, Drawn0.refl _⟩
  · have q1 : ¬ (l.length : Int) ≤ 1 := by omega
    have q2 : (1 : Int) ≤ (l.length : Int) := by omega
    have q3 : (1 : Int) ≤ (c : Int) := by omega
    have q4 : ¬ c = 1 := by omega
    go_enter Try.func63, Try.ntmps63
    go_wp2
    obtain ⟨m, hm⟩ : ∃ m, m = l.length - 1 := ⟨_, rfl⟩
    rw [← hm]
    have HM := Aside0.mk hm
    clear hm
    go_loopg [12] (m + 1) (fun kq v w' => ∃ i : Nat, v = .int .i64 (i : Int) ∧ Aside0 (i + kq = m + 1 ∧ 1 ≤ kq) ∧ Aside0 (risesB l = risesB (l.drop i)) ∧ Drawn0 w w')
    case atStart => exact ⟨0, rfl, ⟨by omega, by omega⟩, ⟨rfl⟩, Drawn0.refl _⟩
    case round =>
      obtain ⟨i, rfl, HI, HRs, ⟨m1, rfl⟩⟩ := hrel
      cases gk with
      | zero => exact absurd HI.out.2 (by omega)
      | succ k1 =>
        by_cases hlt : i < m
        · have hl1 : i + 1 < l.length := by have := HM.out; omega
          have hst := rises_step l i hl1
          have p160 : 0 ≤ (i : Int) := by omega
          have q160 : (i : Int) < (l.length : Int) := by omega
          obtain ⟨ad160, e160, hx160⟩ := Kd.at_string HR.out (i : Int) p160 q160
          cases e160
          have p161 : 0 ≤ (i : Int) + 1 := by omega
          have q161 : (i : Int) + 1 < (l.length : Int) := by omega
          obtain ⟨ad161, e161, hx161⟩ := Kd.at_string HR.out ((i : Int) + 1) p161 q161
          obtain rfl : ad160 = ad161 := by injection e161
          clear e161
          rw [Int.toNat_natCast] at hx160
          have hx162 : w.cell? (ad160.add (i + 1)) = some (.string (rdOf ByteArray.empty l ((i : Int) + 1))) := by rw [show ((i : Int) + 1).toNat = i + 1 by omega] at hx161; exact hx161
          have hx163 : w.cell? { block := ad160.block, off := ad160.off + (i + 1) } = some (.string (rdOf ByteArray.empty l ((i : Int) + 1))) := hx162
          have hw : IntKind.i64.wrap ((i : Int) + 1) = (i : Int) + 1 := IntWalk.i64_in _ (by have := HR.out.2.1; omega)
          generalize rdOf ByteArray.empty l (i : Int) = x at *
          generalize rdOf ByteArray.empty l ((i : Int) + 1) = y at *
          rcases cmpB_iff x y with ⟨hc0, hb⟩ | ⟨hc0, hb⟩
          · have HS := Aside0.mk (show risesB l = false by rw [HRs.out, hst, hb]; rfl)
            clear hst hb
            obtain ⟨d, hd⟩ : ∃ d, d = cmpB x y := ⟨_, rfl⟩
            rw [← hd] at hc0
            have E5 : Aside0 (Ending.returned (.int .i64 (cmpB x y)) = Ending.returned (.int .i64 d)) := ⟨by rw [hd]⟩
            clear hd
            go_wp2
            go_quiet (first | (go_at_call 64; (with_reducible refine (cmp_calls x y _).mono ?_); rintro e w5 ⟨rfl, ⟨m5, rfl⟩⟩; refine ⟨E5.out, ?_⟩; apply Exists.intro; simp only [World.drewN_drewN, Nat.add_assoc]; rfl))
            go_wp2
            go_ret
            exact ⟨by have h_ := HS.out; rw [h_] <;> rfl, by repeat (first | exact Drawn0.refl _ | apply Drawn0.step)⟩
          · have HS := Aside0.mk (show risesB l = risesB (l.drop (i + 1)) by rw [HRs.out, hst, hb]; rfl)
            clear hst hb
            obtain ⟨d, hd⟩ : ∃ d, d = cmpB x y := ⟨_, rfl⟩
            rw [← hd] at hc0
            have E5 : Aside0 (Ending.returned (.int .i64 (cmpB x y)) = Ending.returned (.int .i64 d)) := ⟨by rw [hd]⟩
            clear hd
            go_wp2
            go_quiet (first | (go_at_call 64; (with_reducible refine (cmp_calls x y _).mono ?_); rintro e w5 ⟨rfl, ⟨m5, rfl⟩⟩; refine ⟨E5.out, ?_⟩; apply Exists.intro; simp only [World.drewN_drewN, Nat.add_assoc]; rfl))
            go_wp2
            go_roundg k1
            case measure => omega
            case rel => exact ⟨i + 1, by go_num, ⟨by have := HI.out; omega, by have := HI.out; omega⟩, HS, by repeat (first | exact Drawn0.refl _ | apply Drawn0.step)⟩
        · have HS := Aside0.mk (show risesB l = true by rw [HRs.out]; exact rises_end l i (by have := HM.out; omega))
          go_wp2
          go_ret
          exact ⟨by have h_ := HS.out; rw [h_] <;> rfl, by repeat (first | exact Drawn0.refl _ | apply Drawn0.step)⟩

def value_rises_string.f (l0 : List ByteArray) : Option Bool := some (risesB l0)
theorem value_rises_string.calls (A0 : Option Addr) (c0 : Nat) (l0 : List ByteArray) (r : Bool) (w : World) (hr0 : Kd.C Kd.string w A0 l0.length l0) (hc0 : l0.length ≤ c0) (h : value_rises_string.f l0 = some r) :
    Calls Try.prog 63 #[.slice A0 l0.length c0, .func (.func 64) #[] #[]] w fun e w' => e = .returned (.bool r) ∧ Drawn0 w w' := by
  obtain rfl : risesB l0 = r := Option.some.inj h
  exact rises_string A0 c0 l0 w hr0 hc0
end Go.Proofs.Ytbbgiedfkklojaa.X
