/- Plain: what was put is read. -/
import Derived.Test.YtmbfapgamcbajaaDoorPFrm3
set_option linter.unusedVariables false
set_option linter.unusedSimpArgs false
namespace Go.Proofs.YtmbfapgamcbajaaDoor.X
open Go.RowKit Go.Lib

def lineP (mark : UInt8) (n : Nat) : List UInt8 := mark :: Lib.itoa (n : Int) ++ [13, 10]
def bulkU (w : ByteArray) : List UInt8 := lineP 36 w.size ++ w.data.toList ++ [13, 10]
def putU (l : List ByteArray) : List UInt8 := lineP 42 l.length ++ (l.map bulkU).flatten

theorem itoaN_len (n : Nat) (h : n < 10000000000) : (Lib.itoa (n : Int)).length ≤ 10 := by
  rw [show Lib.itoa (n : Int) = decDigits n by unfold Lib.itoa; rw [if_neg (by omega), Int.toNat_natCast]]
  exact dec_len 10 n (by decide) (by omega)
theorem itoaN_ne (n : Nat) (c : UInt8) (hc : c ∈ Lib.itoa (n : Int)) : c ≠ 10 := by
  rw [show Lib.itoa (n : Int) = decDigits n by unfold Lib.itoa; rw [if_neg (by omega), Int.toNat_natCast]] at hc
  have := dec_digit n c hc
  rintro rfl
  have e : (10 : UInt8).toNat = 10 := rfl
  omega
theorem lineP_len (mark : UInt8) (n : Nat) : (lineP mark n).length = (Lib.itoa (n : Int)).length + 3 := by simp [lineP]

theorem head_put (mark : UInt8) (low high : Int) (n : Nat) (hn : n < 10000000000) (hm : mark ≠ 10) (r : List UInt8) :
    headU mark low high (lineP mark n ++ r) = if low ≤ n ∧ (n : Int) ≤ high then .ok n (lineP mark n).length else .bad := by
  have hp : ∀ d ∈ mark :: Lib.itoa (n : Int) ++ [13], d ≠ 10 := by
    intro d hd
    rcases List.mem_append.1 hd with hd | hd
    · rcases List.mem_cons.1 hd with rfl | hd
      · exact hm
      · exact itoaN_ne n d hd
    · rw [List.mem_singleton.1 hd]; decide
  have hl := itoaN_len n hn
  have hpl : (mark :: Lib.itoa (n : Int) ++ [13]).length = (Lib.itoa (n : Int)).length + 2 := by simp
  have hs : lineP mark n ++ r = (mark :: Lib.itoa (n : Int) ++ [13]) ++ 10 :: r := by simp [lineP]
  obtain ⟨p, hpe⟩ : ∃ p, p = mark :: Lib.itoa (n : Int) ++ [13] := ⟨_, rfl⟩
  rw [hs, ← hpe]
  rw [← hpe] at hp hpl
  have hline : lineU (p ++ 10 :: r) = p.length := by
    unfold lineU
    rw [List.take_append, List.take_of_length_le (by omega)]
    obtain ⟨k, hk⟩ : ∃ k, 16 - p.length = k + 1 := ⟨15 - p.length, by omega⟩
    rw [hk, List.take_succ_cons]
    exact idx_put p _ 10 hp
  unfold headU
  rw [hline, if_neg (by omega)]
  simp only [Int.toNat_natCast]
  rw [List.take_append_of_le_length (Nat.le_refl _), List.take_length, hpe]
  unfold lineHd
  rw [List.cons_append]
  simp only
  have hdl : (Lib.itoa (n : Int) ++ [13]).dropLast = Lib.itoa (n : Int) := by simp
  have hgl : (Lib.itoa (n : Int) ++ [13]).getLast? = some 13 := by simp
  have hparse := parse_text (n : Int) (by omega) (by omega)
  unfold textB at hparse
  rw [hdl, hgl, hparse]
  simp only [Int.toNat_natCast, true_and]
  have e : (mark :: (Lib.itoa (n : Int) ++ [13])).length + 1 = (lineP mark n).length := by rw [lineP_len]; simp
  rw [e]

theorem row_back : ∀ (l : List ByteArray) (r : List UInt8) (a : Nat) (acc : List ByteArray), (∀ w ∈ l, w.size ≤ 512) → rowU l.length ((l.map bulkU).flatten ++ r) a acc = (acc ++ l, ((a + (l.map bulkU).flatten.length : Nat) : Int), 0)
  | [], r, a, acc, _ => by simp [rowU]
  | w :: l, r, a, acc, h => by
    have hw := h w List.mem_cons_self
    have ih := fun a acc => row_back l r a acc (fun v hv => h v (List.mem_cons_of_mem _ hv))
    simp only [List.length_cons, List.map_cons, List.flatten_cons]
    unfold rowU
    have hs : bulkU w ++ (l.map bulkU).flatten ++ r = lineP 36 w.size ++ (w.data.toList ++ ([13, 10] ++ ((l.map bulkU).flatten ++ r))) := by simp [bulkU, List.append_assoc]
    rw [hs, head_put 36 0 512 w.size (by omega) (by decide), if_pos ⟨by omega, by omega⟩]
    simp only
    have e1 : (lineP 36 w.size ++ (w.data.toList ++ ([13, 10] ++ ((l.map bulkU).flatten ++ r)))).drop (lineP 36 w.size).length = w.data.toList ++ ([13, 10] ++ ((l.map bulkU).flatten ++ r)) := by simp
    have hsz : w.data.toList.length = w.size := size_data w
    have e2 : (w.data.toList ++ ([13, 10] ++ ((l.map bulkU).flatten ++ r))).drop w.size = [13, 10] ++ ((l.map bulkU).flatten ++ r) := by rw [← hsz]; simp
    have e3 : (w.data.toList ++ ([13, 10] ++ ((l.map bulkU).flatten ++ r))).take w.size = w.data.toList := by rw [← hsz]; simp
    have e4 : (w.data.toList ++ ([13, 10] ++ ((l.map bulkU).flatten ++ r))).drop (w.size + 2) = (l.map bulkU).flatten ++ r := by rw [← List.drop_drop, e2]; rfl
    rw [if_neg (by simp only [List.length_append, hsz]; simp; omega), e1, e2, e3, e4, if_pos (by rfl), ih, mk_data, List.append_assoc]
    have hbl : (bulkU w).length = (lineP 36 w.size).length + w.size + 2 := by simp only [bulkU, List.length_append, hsz]; rfl
    rw [List.length_append, hbl]
    congr 2
    simp only [Nat.add_assoc]

theorem top_back (l : List ByteArray) (r : List UInt8) (hl : l.length < 10000000000) (h : ∀ w ∈ l, w.size ≤ 512) :
    rowTop (putU l ++ r) = if 1 ≤ l.length ∧ l.length ≤ 32 then (l, (((putU l).length : Nat) : Int), 0) else ([], 0, 10) := by
  unfold rowTop putU
  rw [List.append_assoc, head_put 42 1 32 l.length hl (by decide)]
  by_cases h1 : 1 ≤ l.length ∧ l.length ≤ 32
  · rw [if_pos ⟨by omega, by omega⟩, if_pos h1]
    simp only
    rw [List.drop_left, row_back l r _ _ h, List.nil_append, List.length_append]
  · rw [if_neg (by omega), if_neg h1]

theorem put_head (l : List ByteArray) (r : List UInt8) : (putU l ++ r).head? = some 42 := by simp [putU, lineP]
theorem next_back (l : List ByteArray) (r : List UInt8) (hl : l.length < 10000000000) (h : ∀ w ∈ l, w.size ≤ 512) :
    nextU (putU l ++ r) = if 1 ≤ l.length ∧ l.length ≤ 32 then (l, (((putU l).length : Nat) : Int), 0) else ([], 0, 10) := by
  unfold nextU
  rw [if_pos (put_head l r), top_back l r hl h]

/-- A word that is too long. -/
theorem next_long (w : ByteArray) (h : 512 < w.size) (h9 : w.size < 10000000000) : nextU (putU [w]) = ([], 0, 10) := by
  have e : putU [w] = putU [w] ++ [] := by simp
  rw [e]
  unfold nextU
  rw [if_pos (put_head [w] [])]
  unfold rowTop putU
  rw [List.append_assoc, head_put 42 1 32 _ (by simp) (by decide), if_pos ⟨by simp, by simp⟩]
  simp only
  rw [List.drop_left]
  have hs : ([w].map bulkU).flatten ++ [] = lineP 36 w.size ++ (w.data.toList ++ [13, 10]) := by simp [bulkU]
  rw [hs]
  show rowU 1 _ _ _ = _
  unfold rowU
  rw [head_put 36 0 512 w.size h9 (by decide), if_neg (by omega)]
end Go.Proofs.YtmbfapgamcbajaaDoor.X
