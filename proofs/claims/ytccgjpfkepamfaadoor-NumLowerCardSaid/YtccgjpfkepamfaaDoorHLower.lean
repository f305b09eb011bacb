/- The walk of NumLower, by hand. -/
import Derived.Test.YtccgjpfkepamfaaDoorPNum1
import Derived.Test.YtccgjpfkepamfaaDoorELaidNum
import Derived.LoopTactic
import Derived.Deep.QuietTactic
import Derived.BigQuiet
set_option linter.unusedVariables false
set_option linter.unusedSimpArgs false
namespace Go.Proofs.YtccgjpfkepamfaaDoor.X
open Go.RowKit Go.Proofs.YtccgjpfkepamfaaDoorW.PrintWords

set_option maxHeartbeats 1000000 in
theorem NumLower_walk (w : World) (a0 : ByteArray) (y0 : a0.size ≤ maxLen) (z0 : a0.size ≤ 140737488351232) (hL : laidMetH Tryd.prog theList w) :
    Calls Tryd.prog 6 #[.string a0] w fun e w' => e = .returned (.bool true) ∧ Below w.heap.size w w' := by
  have HLD := Aside0.mk (Ld.of_laid hL)
  clear hL
  have hs := short_size a0
  have HSH := Aside0.mk (short_f a0)
  obtain ⟨s, hsd⟩ : ∃ s, s = shortB a0 := ⟨_, rfl⟩
  rw [← hsd] at hs HSH
  have HF1 := Aside0.mk (low_f s (by omega))
  have HF2 := Aside0.mk (low_f (lowB s) (by rw [lowB_size]; omega))
  have HF3 := Aside0.mk (word_f s (by omega))
  have HF4 := Aside0.mk (word_f (lowB s) (by rw [lowB_size]; omega))
  rw [lowB_low] at HF2
  rw [word_low] at HF4
  have hsz : (lowB s).size = s.size := lowB_size s
  have HSZ := Aside0.mk hsz
  have HLP : Aside0 (∀ k : Nat, k < s.size → ∃ c : Nat, c ≤ 255 ∧ bt s k = c ∧ bt (lowB s) k = if 65 ≤ c ∧ c ≤ 90 then (c : Int) + 32 else c) := ⟨fun k hk => by
    have hkl : k < s.data.toList.length := by rw [size_data]; omega
    have hlt := (s.data.toList[k]).toNat_lt
    refine ⟨(s.data.toList[k]).toNat, by omega, bt_data (List.getElem?_eq_getElem hkl), ?_⟩
    have := bt_data (s := lowB s) (k := k) (c := low1 s.data.toList[k]) (by rw [lowB_data, List.getElem?_map, List.getElem?_eq_getElem hkl]; rfl)
    rw [this, low_toNat]
    split <;> simp⟩
  generalize lowB s = l at *
  generalize wordB s = b at *
  clear hsd
  go_enter Tryd.func6, Tryd.ntmps6
  go_wp2_with fail
  refine (tipstafflaw01_shown.calls true w HLD.out shown_true).mono ?_
  rintro e w1 ⟨rfl, hb⟩
  have HB := Aside0.mk hb
  clear hb
  go_wp2_with fail
  refine (tipstafflaw01_short.calls a0 s w1 HSH.out).mono ?_
  rintro e w2 ⟨rfl, ⟨n2, rfl⟩⟩
  go_wp2_with fail
  refine (num_Lower.calls s l _ HF1.out).mono ?_
  rintro e w3 ⟨rfl, hb⟩
  have HB3 := Aside0.mk (below_then (pw_below_drewN HB.out n2) (by simpa using HB.out.size) hb)
  clear hb HB
  go_wp2_with fail
  refine (num_Lower.calls l l _ HF2.out).mono ?_
  rintro e w4 ⟨rfl, hb⟩
  have HB4 := Aside0.mk (below_then HB3.out HB3.out.size hb)
  clear hb HB3
  go_wp2_with fail
  go_loopw [5] (fun i wr => ∃ k : Nat, k ≤ s.size ∧ i = .int .i64 k ∧ Aside0 (Below w.heap.size w wr)) (fun i _ => s.size - (intOf i).toNat)
  case atStart => exact ⟨0, Nat.zero_le _, rfl, HB4⟩
  case round =>
    obtain ⟨k, hk, rfl, HBR⟩ := hrel
    by_cases hlt : k < s.size
    · obtain ⟨c, hc, e1, e2⟩ := HLP.out k hlt
      obtain ⟨x, hx⟩ : ∃ x : Int, x = (c : Int) := ⟨_, rfl⟩
      obtain ⟨y, hy⟩ : ∃ y : Int, y = if 65 ≤ c ∧ c ≤ 90 then (c : Int) + 32 else c := ⟨_, rfl⟩
      rw [← hx] at e1
      rw [← hy] at e2
      have r1 : ∀ h : k < s.size, ((s[k]'h).toNat : Int) = x := fun h => by rw [← e1]; simpa using bt_at s (k : Int) (by simpa using h)
      have r2 : ∀ h : k < l.size, ((l[k]'h).toNat : Int) = y := fun h => by rw [← e2]; simpa using bt_at l (k : Int) (by simpa using h)
      have x0 : 0 ≤ x := by omega
      have x1 : x ≤ 255 := by omega
      have hltl : k < l.size := by omega
      clear e1 e2
      rcases (by omega : (65 ≤ c ∧ c ≤ 90) ∨ c < 65 ∨ 90 < c) with h1 | h1 | h1
      · rw [if_pos h1] at hy
        have x2 : 65 ≤ x := by omega
        have x3 : x ≤ 90 := by omega
        obtain rfl : y = x + 32 := by omega
        clear hy hx h1 hc
        go_wp2
        go_quiet (fail)
        go_wp2
        go_roundw
        case rel => exact ⟨k + 1, by omega, by go_num, ⟨pw_below_drewN HBR.out _⟩⟩
        case measure => simp [intOf]; omega
      · rw [if_neg (fun h => by omega)] at hy
        have x2 : x < 65 := by omega
        obtain rfl : y = x := by omega
        clear hy hx h1 hc
        go_wp2
        go_quiet (fail)
        go_wp2
        go_roundw
        case rel => exact ⟨k + 1, by omega, by go_num, ⟨pw_below_drewN HBR.out _⟩⟩
        case measure => simp [intOf]; omega
      · rw [if_neg (fun h => by omega)] at hy
        have x2 : 90 < x := by omega
        have x3 : decide (x ≤ 90) = false := decide_eq_false (by omega)
        obtain rfl : y = x := by omega
        clear hy hx h1 hc
        go_wp2
        go_quiet (fail)
        go_wp2
        go_roundw
        case rel => exact ⟨k + 1, by omega, by go_num, ⟨pw_below_drewN HBR.out _⟩⟩
        case measure => simp [intOf]; omega
    · go_wp2_with fail
      refine (num_Word.calls l b _ HF4.out).mono ?_
      rintro e w5 ⟨rfl, hb⟩
      have HB5 := Aside0.mk (below_then HBR.out HBR.out.size hb)
      clear hb
      go_wp2_with fail
      refine (num_Word.calls s b _ HF3.out).mono ?_
      rintro e w6 ⟨rfl, hb⟩
      have HB6 := Aside0.mk (below_then HB5.out HB5.out.size hb)
      clear hb
      go_wp2
      all_goals go_ret
      all_goals exact ⟨by simp, HB6.out⟩
end Go.Proofs.YtccgjpfkepamfaaDoor.X
