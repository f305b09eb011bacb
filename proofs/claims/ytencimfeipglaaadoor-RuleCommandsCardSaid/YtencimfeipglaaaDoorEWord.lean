/- num.Word, as the printed texts take it. -/
import Derived.Test.YtencimfeipglaaaDoorKp
import Derived.Test.YtencimfeipglaaaDoorRows
import Derived.Laws.RangeString
import Derived.Laws.RangeAny
import Derived.LoopTactic
set_option linter.unusedVariables false
set_option linter.unusedSimpArgs false
namespace Go.Proofs.YtencimfeipglaaaDoor.X
open Go.RowKit Go.Proofs.YtencimfeipglaaaDoorW.PrintWords

def okc (c : UInt8) : Bool := decide (33 ≤ c.toNat ∧ c.toNat ≤ 126)
def wordB (s : ByteArray) : Bool := s.data.toList.all okc && !s.data.toList.isEmpty
def num_Word.f (a0 : ByteArray) : Option Bool := if a0.size ≤ 140737488355328 then some (wordB a0) else none

theorem decode_big (s : ByteArray) (i : Nat) (h : i < s.size) (hb : 128 ≤ (s[i]'h).toNat) : 128 ≤ (Utf8.decode s i).1 := by
  have h0 : (s.get! (i + 0)).toNat = (s[i]'h).toNat := by
    rw [Nat.add_zero]
    congr 1
    show s.data[i]! = s.data[i]
    exact getElem!_pos s.data i h
  unfold Utf8.decode
  simp only [h0]
  rw [if_neg (by omega)]
  split
  · split
    · assumption
    · decide
  · split
    · split
      · rename_i hh
        simp at hh
        omega
      · decide
    · split
      · split
        · rename_i hh
          simp at hh
          omega
        · decide
      · decide

theorem toList_data' (s : ByteArray) : s.toList = s.data.toList := Go.ByteArray.toList_eq s
theorem word_no {s : ByteArray} {k : Nat} (h : k < s.size) (hb : okc (s[k]'h) = false) : wordB s = false := by
  unfold wordB
  have : s.data.toList.all okc = false := by
    rw [List.all_eq_false]
    exact ⟨s[k]'h, by
      rw [Array.mem_toList_iff]
      exact Array.getElem_mem _, by rw [hb]; decide⟩
  rw [this]
  rfl

set_option maxHeartbeats 1000000 in
theorem num_Word.calls (a0 : ByteArray) (r : Bool) (w : World) (h : num_Word.f a0 = some r) :
    Calls Tryd.prog 58 #[.string a0] w fun e w' => e = .returned (.bool r) ∧ Below w.heap.size w w' := by
  unfold num_Word.f at h
  split at h
  · rename_i hs
    obtain rfl := Option.some.inj h
    clear h
    go_enter Tryd.func58, Tryd.ntmps58
    go_wp2
    go_loopw [7] (fun _ wr => ∃ k : Nat, k ≤ a0.size ∧ (∀ j (hj : j < a0.size), j < k → okc (a0[j]'hj) = true) ∧ wr = w.iter a0 k) (fun _ wr => a0.size - wr.iterPos w.heap.size)
    case atStart => exact ⟨0, Nat.zero_le _, fun j hj h => by omega, rfl⟩
    case round =>
      obtain ⟨k, hk, hall, rfl⟩ := hrel
      have HA := Aside0.mk hall
      clear hall
      by_cases hlt : k < a0.size
      · by_cases ha : (a0[k]'hlt).toNat < 128
        · have hnx := fun ty => run_next_ascii (P := Tryd.prog) w a0 k ty hlt ha
          obtain ⟨x, hx⟩ : ∃ x : Int, x = ((a0[k]'hlt).toNat : Int) := ⟨_, rfl⟩
          rw [← hx] at hnx
          have x0 : 0 ≤ x := by omega
          have HX := Aside0.mk hx
          clear hx
          rcases (by omega : x ≤ 32 ∨ 126 < x ∨ (33 ≤ x ∧ x ≤ 126)) with hx1 | hx1 | ⟨hx1, hx2⟩
          · have HF := Aside0.mk (word_no hlt (by unfold okc; have := HX.out; exact decide_eq_false (by omega)))
            clear ha
            go_wp2
            go_ret
            rw [HF.out]
            exact ⟨rfl, (Below.refl _ _).alloc (Nat.le_refl _) _⟩
          · have HF := Aside0.mk (word_no hlt (by unfold okc; have := HX.out; exact decide_eq_false (by omega)))
            clear ha
            go_wp2
            go_ret
            rw [HF.out]
            exact ⟨rfl, (Below.refl _ _).alloc (Nat.le_refl _) _⟩
          · clear ha
            go_wp2
            go_roundw
            case rel =>
              refine ⟨k + 1, by omega, fun j hj hjk => ?_, rfl⟩
              rcases (by omega : j < k ∨ j = k) with h1 | rfl
              · exact HA.out j hj h1
              · unfold okc
                have := HX.out
                exact decide_eq_true (by omega)
            case measure => simp; omega
        · have hnx := fun ty => run_next_any (P := Tryd.prog) w a0 k ty hlt
          have hd := decode_big a0 k hlt (by omega)
          have HF := Aside0.mk (word_no hlt (by unfold okc; exact decide_eq_false (by omega)))
          generalize (Utf8.decode a0 k).1 = n at *
          generalize (Utf8.decode a0 k).2 = m at *
          clear ha
          have hn : (126 : Int) < (n : Int) := by omega
          clear hd
          go_wp2
          go_ret
          rw [HF.out]
          exact ⟨rfl, (Below.refl _ _).alloc (Nat.le_refl _) _⟩
      · have hnx := fun ty => run_next_end (P := Tryd.prog) w a0 k ty hlt
        go_wp2
        go_ret
        refine ⟨?_, (Below.refl _ _).alloc (Nat.le_refl _) _⟩
        have hw : wordB a0 = !a0.toList.isEmpty := by
          unfold wordB
          rw [toList_data']
          have : a0.data.toList.all okc = true := by
            rw [List.all_eq_true]
            intro c hc
            obtain ⟨j, hj, rfl⟩ := List.getElem_of_mem hc
            have hj' : j < a0.size := by rw [Array.length_toList] at hj; exact hj
            exact HA.out j hj' (by omega)
          rw [this]
          rfl
        rw [hw]
        rfl
  · cases h
end Go.Proofs.YtencimfeipglaaaDoor.X
