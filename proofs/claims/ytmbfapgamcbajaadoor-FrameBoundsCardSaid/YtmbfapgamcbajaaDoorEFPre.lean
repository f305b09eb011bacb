/- bytes.HasPrefix, as the printed texts take it. -/
import Derived.Test.YtmbfapgamcbajaaDoorEFRow
set_option linter.unusedVariables false
set_option linter.unusedSimpArgs false
namespace Go.Proofs.YtmbfapgamcbajaaDoor.X
open Go.RowKit Go.Proofs.YtmbfapgamcbajaaDoorW.PrintWords

theorem text_len (w : World) (A : Option Addr) (b : List Int) (h : BC w A b) : ∀ m c : Nat, m = b.length → (convert 22 9 (.slice A m c)).run Tryd.prog w = .ok (.string (strOfNums b)) w := by
  rintro m c rfl
  exact cut_text w A c b h

set_option maxHeartbeats 1000000 in
theorem equal_any (A0 : Option Addr) (m0 c0 : Nat) (l0 : List Int) (A1 : Option Addr) (m1 c1 : Nat) (l1 : List Int) (w : World) (h0 : BC w A0 l0) (h1 : BC w A1 l1) (e0 : m0 = l0.length) (e1 : m1 = l1.length) :
    Calls Tryd.prog 35 #[.slice A0 m0 c0, .slice A1 m1 c1] w fun e w' => e = .returned (.bool ((strOfNums l0).toList == (strOfNums l1).toList)) ∧ w' = w := by
  have t0 := text_len w A0 l0 h0 m0 c0 e0
  have t1 := text_len w A1 l1 h1 m1 c1 e1
  clear h0 h1 e0 e1
  go_enter Tryd.func35, Tryd.ntmps35
  go_wp2
  go_ret
  exact ⟨rfl, rfl⟩

def bytes_HasPrefix.f (l0 l1 : List Int) : Option Bool := some (decide (l1.length ≤ l0.length) && (strOfNums (l0.take l1.length)).toList == (strOfNums l1).toList)

set_option maxHeartbeats 1000000 in
theorem bytes_HasPrefix.calls (A0 : Option Addr) (c0 : Nat) (l0 : List Int) (A1 : Option Addr) (c1 : Nat) (l1 : List Int) (r : Bool) (w : World) (hr0 : Kd.C (Kd.int .u8) w A0 l0.length l0) (hc0 : l0.length ≤ c0) (hr1 : Kd.C (Kd.int .u8) w A1 l1.length l1) (hc1 : l1.length ≤ c1) (h : bytes_HasPrefix.f l0 l1 = some r) :
    Calls Tryd.prog 25 #[.slice A0 l0.length c0, .slice A1 l1.length c1] w fun e w' => e = .returned (.bool r) ∧ Drawn0 w w' := by
  obtain rfl := Option.some.inj h
  by_cases hl : l1.length ≤ l0.length
  · obtain ⟨cut1, bc1, hc⟩ := cut_take A0 c0 l0 l1.length (by omega) (by omega) hc0
    simp only [Int.toNat_natCast] at cut1 bc1 hc
    obtain ⟨s, hs⟩ : ∃ s, s = l0.take l1.length := ⟨_, rfl⟩
    rw [← hs] at cut1 bc1 hc ⊢
    rw [decide_eq_true hl, Bool.true_and]
    clear hs
    have HE := Aside0.mk (equal_any A0 s.length c0 s A1 l1.length c1 l1 w (bc1 _ hr0) hr1 rfl rfl)
    clear hr0 hr1 bc1
    have hd : (l1.length : Int) ≤ l0.length := by omega
    clear hl hc hc0 hc1
    go_enter Tryd.func25, Tryd.ntmps25
    go_wp2_with (go_at_call 35; refine HE.out.mono ?_; rintro e w' ⟨rfl, rfl⟩)
    go_ret
    exact ⟨rfl, Drawn0.refl _⟩
  · rw [decide_eq_false hl, Bool.false_and]
    have hd : ¬ (l1.length : Int) ≤ l0.length := by omega
    clear hl hr0 hr1 hc0 hc1
    go_enter Tryd.func25, Tryd.ntmps25
    go_wp2
    go_ret
    exact ⟨rfl, Drawn0.refl _⟩
end Go.Proofs.YtmbfapgamcbajaaDoor.X
