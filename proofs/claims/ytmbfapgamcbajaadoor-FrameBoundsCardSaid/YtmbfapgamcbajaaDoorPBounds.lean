/- Plain: what FrameBounds looks at. -/
import Derived.Test.YtmbfapgamcbajaaDoorEFPut
set_option linter.unusedVariables false
set_option linter.unusedSimpArgs false
namespace Go.Proofs.YtmbfapgamcbajaaDoor.X
open Go.RowKit Go.Proofs.YtmbfapgamcbajaaDoorW.PrintWords

theorem putB_U (l : List ByteArray) : nextB (NB (putU l)) = nextU (putU l) := by rw [nextB_U, U_NB]

/-- One word. -/
theorem next_one (s : ByteArray) (h9 : s.size ≤ 1000) : nextB (NB (putU [s])) = if 512 < s.size then ([], 0, 10) else ([s], (((putU [s]).length : Nat) : Int), 0) := by
  rw [putB_U]
  by_cases h : 512 < s.size
  · rw [if_pos h, next_long s h (by omega)]
  · rw [if_neg h]
    have := next_back [s] [] (by simp) (fun w hw => by rw [List.mem_singleton.1 hw]; omega)
    rw [List.append_nil] at this
    rw [this]
    rfl

def ws (k : Nat) : List ByteArray := List.replicate k ⟨#[119]⟩
theorem ws_size (k : Nat) : ∀ x ∈ ws k, x.size ≤ 512 := by
  intro x hx
  rw [List.eq_of_mem_replicate hx]
  decide
theorem next_row (k : Nat) (hk : k ≤ 100) : nextB (NB (putU (ws k))) = if 1 ≤ k ∧ k ≤ 32 then (ws k, (((putU (ws k)).length : Nat) : Int), 0) else ([], 0, 10) := by
  rw [putB_U]
  have := next_back (ws k) [] (by simp [ws]; omega) (ws_size k)
  rw [List.append_nil] at this
  rw [this]
  simp [ws]

theorem itoa_dig (k : Nat) (h : k < 10) : (Lib.itoa (k : Int)).length = 1 := by
  unfold Lib.itoa
  rw [if_neg (by omega), Int.toNat_natCast, decD, if_pos h]
  rfl

theorem itoa00' : Lib.itoa ((0 : Nat) : Int) = [48] := by unfold Lib.itoa; rw [if_neg (by omega), decD, if_pos (by decide)]; rfl

/-- Its first five bytes, with fewer than ten words. -/
theorem next_five (k : Nat) (h : k < 10) : ∃ l n, nextB ((NB (putU (ws k))).take 5) = (l, n, if 1 ≤ k ∧ k ≤ 32 then 0 else 10) := by
  rw [nextB_U, U_take, U_NB]
  by_cases h0 : k = 0
  · subst h0
    have hs : (putU (ws 0)).take 5 = putU (ws 0) ++ [] := by
      have : putU (ws 0) = [42, 48, 13, 10] := by
        show lineP 42 0 ++ [] = _
        unfold lineP
        rw [itoa00']
        rfl
      rw [this]
      rfl
    rw [hs, next_back (ws 0) [] (by decide) (ws_size 0)]
    exact ⟨_, _, rfl⟩
  · rw [if_pos ⟨by omega, by omega⟩]
    obtain ⟨j, rfl⟩ : ∃ j, k = j + 1 := ⟨k - 1, by omega⟩
    have hl : (lineP 42 (j + 1)).length = 4 := by rw [lineP_len, itoa_dig _ h]
    have hs : (putU (ws (j + 1))).take 5 = lineP 42 (j + 1) ++ [36] := by
      have e : putU (ws (j + 1)) = lineP 42 (j + 1) ++ ([36] ++ ((Lib.itoa ((1 : Nat) : Int) ++ [13, 10] ++ [119] ++ [13, 10]) ++ ((ws j).map bulkU).flatten)) := by
        show lineP 42 (List.replicate (j + 1) _).length ++ _ = _
        rw [List.length_replicate]
        simp [ws, List.replicate_succ, bulkU, lineP]
        rfl
      rw [e, List.take_append, List.take_of_length_le (by omega), hl]
      rfl
    rw [hs]
    refine ⟨[], 0, ?_⟩
    unfold nextU
    rw [if_pos (by simp [lineP])]
    unfold rowTop
    rw [head_put 42 1 32 (j + 1) (by omega) (by decide), if_pos ⟨by omega, by omega⟩]
    simp only
    rw [List.drop_left]
    unfold rowU
    have hh : headU 36 0 512 [36] = .short := rfl
    rw [hh]
end Go.Proofs.YtmbfapgamcbajaaDoor.X
