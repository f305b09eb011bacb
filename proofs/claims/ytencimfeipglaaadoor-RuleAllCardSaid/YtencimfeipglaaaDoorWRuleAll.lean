/- RuleAll: in plain words, and its walk. -/
import Derived.Test.YtencimfeipglaaaDoorPRul3
import Derived.Test.YtencimfeipglaaaDoorERule
import Derived.Test.YtencimfeipglaaaDoorELaidRule
import Derived.Test.YtencimfeipglaaaDoorXx2
set_option linter.unusedVariables false
set_option linter.unusedSimpArgs false
namespace Go.Proofs.YtencimfeipglaaaDoor.X
open Go.RowKit Go.Lib Go.Proofs.YtencimfeipglaaaDoorW.PrintWords

theorem parse17_f (s : ByteArray) (h : s.size ≤ 1000) : rule_Parse.f s = some (ruleB s) := by unfold rule_Parse.f; rw [if_pos h]
theorem shown17 : tipstafflaw17_shown.f = some true := by kernel_rfl
theorem ruleB_false (s : ByteArray) (h : (ruleB s).2.2.2.2.2 = false) : ruleB s = zeroR := by
  rcases ruleB_cases s with ⟨p, hp, rfl, hc⟩ | ⟨hn, hc⟩
  · rw [hc] at h
    simp only [words11, List.mem_cons, List.not_mem_nil, or_false] at hp
    rcases hp with rfl | rfl | rfl | rfl | rfl | rfl | rfl | rfl | rfl | rfl | rfl <;> cases h
  · rw [hc] at h ⊢
    unfold finR at h ⊢
    split
    · rename_i h1
      rw [if_pos h1, h1] at h
      cases h
    · rfl
theorem RuleAll_plain (a0 : ByteArray) (h0 : a0.size ≤ 140737488351232) : ∃ k, tipstafflaw17_RuleAll.f k a0 = some true := by
  have body : ∀ x : ByteArray, x.size ≤ 1000 → Ev (fun k => (rule_Parse.f x).bind fun b => (tipstaffref17_Parse.f k x).bind fun c => if true = true then (if (b.1 == c.1 && (b.2.1.toList == c.2.1.toList && (b.2.2.1 == c.2.2.1 && (b.2.2.2.1 == c.2.2.2.1 && (b.2.2.2.2.1 == c.2.2.2.2.1))))) = true then (if (b.2.2.2.2.2 == c.2.2.2.2.2) = true then (if b.2.2.2.2.2 = true then (some true) else (some (b.1 == 0 && (b.2.1.toList == ([] : List UInt8) && (!b.2.2.1 && (!b.2.2.2.1 && (b.2.2.2.2.1 == 0))))))) else (some false)) else (some false)) else (some false)) true := by
    intro x hx
    rw [parse17_f x hx]
    simp only [Option.bind_some]
    refine Ev.bind (refp_ev x hx) (Ev.congr (fun n => ?_) (Ev.now _))
    simp only [beq_self_eq_true, Bool.and_self, Bool.true_and, if_true]
    cases hf : (ruleB x).2.2.2.2.2 with
    | true => rfl
    | false =>
      rw [ruleB_false x hf]
      kernel_rfl
  by_cases hs : (a0.size : Int) > 200
  · obtain ⟨k, hk⟩ := (body (a0.extract 0 200) (by rw [← size_data, Lib.extract_data]; simp; omega)).rounds
    refine ⟨k, ?_⟩
    unfold tipstafflaw17_RuleAll.f
    rw [shown17, Option.bind_some, if_pos hs, if_pos (by decide), if_pos (by omega)]
    exact hk
  · obtain ⟨k, hk⟩ := (body a0 (by omega)).rounds
    refine ⟨k, ?_⟩
    unfold tipstafflaw17_RuleAll.f
    rw [shown17, Option.bind_some, if_neg hs]
    exact hk
theorem RuleAll_walk (w : World) (a0 : ByteArray) (y0 : a0.size ≤ maxLen) (z0 : a0.size ≤ 140737488351232) (hL : laidMetH Tryd.prog theList w) (hS : w.ShapedOpen Tryd.prog) :
    Calls Tryd.prog 3 #[.string a0] w fun e w' => e = .returned (.bool true) ∧ Below w.heap.size w w' := by
  obtain ⟨k, h⟩ := RuleAll_plain a0 z0
  exact tipstafflaw17_RuleAll.calls k a0 true w (Ld.of_laid hL hS) h rfl
end Go.Proofs.YtencimfeipglaaaDoor.X
