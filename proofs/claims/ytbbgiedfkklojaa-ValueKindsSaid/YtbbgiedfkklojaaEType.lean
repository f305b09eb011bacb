/- What value.Type gives, in the printed shape. -/
import Derived.Test.YtbbgiedfkklojaaRows
import Derived.Test.YtbbgiedfkklojaaXx0
import Derived.Deep.RegionWith
import Derived.Deep.RegionHeld3
set_option linter.unusedVariables false
set_option linter.unusedSimpArgs false
namespace Go.Proofs.Ytbbgiedfkklojaa.X
open Go.RowKit Go.Lib Go.Proofs.YtbbgiedfkklojaaW.PrintWords

def value_Type.f (a0_0 : Int) (a0_1 : ByteArray) (l0_2 : List ByteArray) (l0_3 : List S60) (l0_4 : List S62) : Option ByteArray :=
  if ¬ (0 ≤ a0_0 ∧ a0_0 ≤ 255) then none else some (if a0_0 = 1 then ⟨#[115, 116, 114, 105, 110, 103]⟩ else if a0_0 = 2 then ⟨#[108, 105, 115, 116]⟩ else if a0_0 = 3 then ⟨#[104, 97, 115, 104]⟩ else if a0_0 = 4 then ⟨#[115, 101, 116]⟩ else if a0_0 = 5 then ⟨#[122, 115, 101, 116]⟩ else ⟨#[110, 111, 110, 101]⟩)

set_option maxHeartbeats 1000000 in
set_option maxRecDepth 100000 in
theorem value_Type.calls (a0_0 : Int) (a0_1 : ByteArray) (A0_2 : Option Addr) (c0_2 : Nat) (l0_2 : List ByteArray) (A0_3 : Option Addr) (c0_3 : Nat) (l0_3 : List S60) (A0_4 : Option Addr) (c0_4 : Nat) (l0_4 : List S62) (r : ByteArray) (w : World) (hr0_2 : Kd.C Kd.string w A0_2 l0_2.length l0_2) (hc0_2 : l0_2.length ≤ c0_2) (hr0_3 : Kd.C k60 w A0_3 l0_3.length l0_3) (hc0_3 : l0_3.length ≤ c0_3) (hr0_4 : Kd.C k62 w A0_4 l0_4.length l0_4) (hc0_4 : l0_4.length ≤ c0_4) (h : value_Type.f a0_0 a0_1 l0_2 l0_3 l0_4 = some r) :
    Calls Try.prog 45 #[.agg #[.int .u8 a0_0, .string a0_1, .slice A0_2 l0_2.length c0_2, .slice A0_3 l0_3.length c0_3, .slice A0_4 l0_4.length c0_4]] w fun e w' => e = .returned (.string r) ∧ Below w.heap.size w w' := by
  clear hr0_2 hr0_3 hr0_4
  unfold value_Type.f at h
  by_cases hw : 0 ≤ a0_0 ∧ a0_0 ≤ 255
  case neg => rw [if_pos hw] at h; cases h
  rw [if_neg (fun n => n hw)] at h
  injection h with h
  obtain ⟨h0, h1⟩ := hw
  rcases (by omega : a0_0 = 0 ∨ a0_0 = 1 ∨ a0_0 = 2 ∨ a0_0 = 3 ∨ a0_0 = 4 ∨ a0_0 = 5 ∨ 6 ≤ a0_0) with rfl | rfl | rfl | rfl | rfl | rfl | h6
  · obtain rfl : _ = r := h
    go_enter Try.func45, Try.ntmps45
    go_wp2
    go_ret
    exact ⟨rfl, below_alloc (below_alloc (Below.refl _ _) _) _⟩
  · obtain rfl : _ = r := h
    go_enter Try.func45, Try.ntmps45
    go_wp2
    go_ret
    exact ⟨rfl, below_alloc (below_alloc (Below.refl _ _) _) _⟩
  · obtain rfl : _ = r := h
    go_enter Try.func45, Try.ntmps45
    go_wp2
    go_ret
    exact ⟨rfl, below_alloc (below_alloc (Below.refl _ _) _) _⟩
  · obtain rfl : _ = r := h
    go_enter Try.func45, Try.ntmps45
    go_wp2
    go_ret
    exact ⟨rfl, below_alloc (below_alloc (Below.refl _ _) _) _⟩
  · obtain rfl : _ = r := h
    go_enter Try.func45, Try.ntmps45
    go_wp2
    go_ret
    exact ⟨rfl, below_alloc (below_alloc (Below.refl _ _) _) _⟩
  · obtain rfl : _ = r := h
    go_enter Try.func45, Try.ntmps45
    go_wp2
    go_ret
    exact ⟨rfl, below_alloc (below_alloc (Below.refl _ _) _) _⟩
  · have h := h.symm
    rw [if_neg (by omega), if_neg (by omega), if_neg (by omega), if_neg (by omega), if_neg (by omega)] at h
    subst h
    go_enter Try.func45, Try.ntmps45
    go_wp2
    go_ret
    exact ⟨rfl, below_alloc (below_alloc (Below.refl _ _) _) _⟩
end Go.Proofs.Ytbbgiedfkklojaa.X
