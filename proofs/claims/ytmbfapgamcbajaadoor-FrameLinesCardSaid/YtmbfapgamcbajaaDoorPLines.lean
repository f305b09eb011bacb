/- Plain: words on a line, between blanks, are what frame.Next and a reader tell. -/
import Derived.Test.YtmbfapgamcbajaaDoorPReads
import Derived.Test.YtmbfapgamcbajaaDoorXx10
set_option linter.unusedVariables false
set_option linter.unusedSimpArgs false
namespace Go.Proofs.YtmbfapgamcbajaaDoor.X
open Go.RowKit Go.Proofs.YtmbfapgamcbajaaDoorW.PrintWords

theorem ib_at : ∀ (p r : List UInt8) (c : UInt8), (∀ d ∈ p, d ≠ c) → Lib.indexByte (p ++ c :: r) c = (p.length : Int)
  | [], r, c, _ => by simp [Lib.indexByte]
  | d :: p, r, c, h => by
    have h1 : d ≠ c := h d List.mem_cons_self
    have h2 := ib_at p r c (fun x hx => h x (List.mem_cons_of_mem _ hx))
    have hb : (d == c) = false := by rw [beq_eq_false_iff_ne]; exact h1
    rw [List.cons_append]
    unfold Lib.indexByte
    rw [h2]
    simp [hb, h1]
    try omega

def isEnd (e : List UInt8) : Prop := e = [10] ∨ e = [13, 10]
theorem nextU_line (L e r : List UInt8) (hL : ∀ c ∈ L, c ≠ 10 ∧ c ≠ 13) (hh : L.head? ≠ some 42) (hl : L.length ≤ 590) (he : isEnd e) (hw : (wordsU [] L).length ≤ 32) : nextU (L ++ e ++ r) = (wordsU [] L, ((L.length + e.length : Nat) : Int), 0) := by
  obtain ⟨p, hp, hpl, hpe⟩ : ∃ p : List UInt8, e = p ++ [10] ∧ p.length ≤ 1 ∧ (p = [] ∨ p = [13]) := by
    rcases he with rfl | rfl
    · exact ⟨[], rfl, by decide, .inl rfl⟩
    · exact ⟨[13], rfl, by decide, .inr rfl⟩
  subst hp
  have e1 : L ++ (p ++ [10]) ++ r = (L ++ p) ++ 10 :: r := by simp
  have hno : ∀ d ∈ L ++ p, d ≠ 10 := by
    intro d hd
    rcases List.mem_append.1 hd with hd | hd
    · exact (hL d hd).1
    · rcases hpe with rfl | rfl
      · cases hd
      · rw [List.mem_singleton.1 hd]; decide
  rw [e1]
  have hhd : ((L ++ p) ++ 10 :: r).head? ≠ some 42 := by
    cases L with
    | nil => rcases hpe with rfl | rfl <;> simp
    | cons c L => simpa using hh
  have htk : ((L ++ p) ++ 10 :: r).take 600 = (L ++ p) ++ 10 :: r.take (599 - (L ++ p).length) := by
    have hlp : (L ++ p).length ≤ 591 := by rw [List.length_append]; omega
    rw [List.take_append, List.take_of_length_le (by omega)]
    congr 1
    have : 600 - (L ++ p).length = (599 - (L ++ p).length) + 1 := by omega
    rw [this, List.take_succ_cons]
  have hix : Lib.indexByte (((L ++ p) ++ 10 :: r).take 600) 10 = ((L ++ p).length : Int) := by rw [htk]; exact ib_at _ _ _ hno
  unfold nextU
  rw [if_neg hhd, hix, if_neg (by omega), Int.toNat_natCast, List.take_left]
  have htr : Lib.trimSuffix (L ++ p) [13] = L := by
    unfold Lib.trimSuffix Lib.hasSuffix
    rcases hpe with rfl | rfl
    · rw [List.append_nil]
      rw [if_neg]
      intro h
      have h1 := List.isSuffixOf_iff_suffix.1 h
      have h2 := h1.subset (List.mem_singleton.2 rfl)
      exact (hL 13 h2).2 rfl
    · rw [if_pos (List.isSuffixOf_iff_suffix.2 (List.suffix_append _ _))]
      simp
  rw [htr, if_neg (by omega)]
  simp only [List.length_append, List.length_cons, List.length_nil]
  simp
  try omega

/-- A word that plain gives: of 15 bytes at most, without blanks and lines' ends. -/
def PlainOk (t : ByteArray) : Prop := t.size ≤ 15 ∧ ∀ c ∈ t.data.toList, c ≠ 32 ∧ c ≠ 13 ∧ c ≠ 10
def catW (bl : Nat) (W : List ByteArray) : List UInt8 := W.flatMap fun t => t.data.toList ++ List.replicate bl 32
structure GoodW (W : List ByteArray) : Prop where
  ok : ∀ t ∈ W, PlainOk t ∧ t.data.toList ≠ []
  head : ∀ t ∈ W.head?, t.data.toList.head? ≠ some 42
theorem good_nil : GoodW [] := ⟨fun t h => (by cases h), fun t h => (by cases h)⟩
theorem good_snoc {W : List ByteArray} {t : ByteArray} (h : GoodW W) (ht : PlainOk t) (h0 : t.data.toList ≠ []) (h1 : W = [] → t.data.toList.head? ≠ some 42) : GoodW (W ++ [t]) := by
  refine ⟨fun u hu => ?_, fun u hu => ?_⟩
  · rcases List.mem_append.1 hu with hu | hu
    · exact h.ok u hu
    · rw [List.mem_singleton.1 hu]; exact ⟨ht, h0⟩
  · cases W with
    | nil =>
      have : t = u := by simpa using hu
      exact this ▸ h1 rfl
    | cons x W => exact h.head u (by simpa using hu)
theorem words_blanks : ∀ (n : Nat) (r : List UInt8), wordsU [] (List.replicate n 32 ++ r) = wordsU [] r
  | 0, r => rfl
  | n + 1, r => by
    rw [List.replicate_succ, List.cons_append]
    conv => lhs; rw [wordsU]
    simpa using words_blanks n r
theorem words_cat (bl : Nat) (hb : 0 < bl) : ∀ (W : List ByteArray), (∀ t ∈ W, PlainOk t ∧ t.data.toList ≠ []) → wordsU [] (catW bl W) = W
  | [], _ => rfl
  | t :: W, h => by
    obtain ⟨h1, h2⟩ := h t List.mem_cons_self
    have e1 : catW bl (t :: W) = t.data.toList ++ 32 :: (List.replicate (bl - 1) 32 ++ catW bl W) := by
      have : List.replicate bl (32 : UInt8) = 32 :: List.replicate (bl - 1) 32 := by
        rw [← List.replicate_succ]; congr 1; omega
      simp [catW, this]
    rw [e1, words_some _ _ _ (fun c hc => (h1.2 c hc).1), List.nil_append, if_neg h2, words_blanks, words_cat bl hb W (fun u hu => h u (List.mem_cons_of_mem _ hu))]
theorem cat_len (bl : Nat) (hb : bl ≤ 3) : ∀ (W : List ByteArray), (∀ t ∈ W, PlainOk t ∧ t.data.toList ≠ []) → (catW bl W).length ≤ 18 * W.length
  | [], _ => by simp [catW]
  | t :: W, h => by
    have h1 := cat_len bl hb W (fun u hu => h u (List.mem_cons_of_mem _ hu))
    have h2 := (h t List.mem_cons_self).1.1
    have h3 : t.data.toList.length = t.size := (Lib.size_eq t).symm
    have e1 : catW bl (t :: W) = (t.data.toList ++ List.replicate bl 32) ++ catW bl W := by simp [catW]
    rw [e1, List.length_append, List.length_append, List.length_replicate, h3, List.length_cons]
    omega
theorem cat_no (bl : Nat) (W : List ByteArray) (h : ∀ t ∈ W, PlainOk t ∧ t.data.toList ≠ []) : ∀ c ∈ catW bl W, c ≠ 10 ∧ c ≠ 13 := by
  intro c hc
  obtain ⟨t, ht, hc⟩ := List.mem_flatMap.1 hc
  rcases List.mem_append.1 hc with hc | hc
  · have := (h t ht).1.2 c hc
    exact ⟨this.2.2, this.2.1⟩
  · rw [(List.mem_replicate.1 hc).2]
    decide
theorem cat_head (bl : Nat) (W : List ByteArray) (h : GoodW W) : (catW bl W).head? ≠ some 42 := by
  cases W with
  | nil => simp [catW]
  | cons t W =>
    have h1 := h.head t rfl
    obtain ⟨_, h2⟩ := h.ok t List.mem_cons_self
    have e1 : catW bl (t :: W) = t.data.toList ++ (List.replicate bl 32 ++ catW bl W) := by simp [catW]
    rw [e1]
    cases hq : t.data.toList with
    | nil => exact absurd hq h2
    | cons c q =>
      rw [hq] at h1
      simpa using h1
theorem cat_snoc (bl : Nat) (W : List ByteArray) (t : ByteArray) : catW bl (W ++ [t]) = catW bl W ++ (t.data.toList ++ List.replicate bl 32) := by
  simp [catW]

theorem lines_one (bl : Nat) (h0 : 0 < bl) (h3 : bl ≤ 3) (W : List ByteArray) (h : GoodW W) (hl : W.length ≤ 32) (e r : List UInt8) (he : isEnd e) : nextU (catW bl W ++ e ++ r) = (W, (((catW bl W).length + e.length : Nat) : Int), 0) := by
  have hlen := cat_len bl h3 W h.ok
  have hw := words_cat bl h0 W h.ok
  have := nextU_line (catW bl W) e r (cat_no bl W h.ok) (cat_head bl W h) (by omega) he (by rw [hw]; exact hl)
  rw [hw] at this
  exact this
theorem end_pos {e : List UInt8} (he : isEnd e) : 0 < e.length := by rcases he with rfl | rfl <;> decide
theorem lines_two (bl : Nat) (h0 : 0 < bl) (h3 : bl ≤ 3) (W : List ByteArray) (h : GoodW W) (hl : W.length ≤ 32) (e : List UInt8) (he : isEnd e) (k : Nat) : readU (k + 4) (e ++ [32, 32] ++ e ++ catW bl W ++ e) = (W, [], decide (W ≠ []), 0, false) := by
  have hp := end_pos he
  have s1 := nextU_line [] e ([32, 32] ++ e ++ catW bl W ++ e) (by simp) (by simp) (by simp) he (by decide)
  have s2 := nextU_line [32, 32] e (catW bl W ++ e) (by decide) (by decide) (by decide) he (by decide)
  have s3 := lines_one bl h0 h3 W h hl e [] he
  have w1 : wordsU [] ([] : List UInt8) = [] := rfl
  have w2 : wordsU [] ([32, 32] : List UInt8) = [] := by decide
  rw [w1] at s1
  rw [w2] at s2
  have a1 : e ++ [32, 32] ++ e ++ catW bl W ++ e = [] ++ e ++ ([32, 32] ++ e ++ catW bl W ++ e) := by simp
  have a2 : ([] ++ e ++ ([32, 32] ++ e ++ catW bl W ++ e)).drop (([] : List UInt8).length + e.length) = [32, 32] ++ e ++ (catW bl W ++ e) := by simp
  have a3 : ([32, 32] ++ e ++ (catW bl W ++ e)).drop (([32, 32] : List UInt8).length + e.length) = catW bl W ++ e ++ [] := by
    rw [← List.length_append, List.drop_left, List.append_nil]
  have a4 : (catW bl W ++ e ++ []).drop ((catW bl W).length + e.length) = [] := by
    rw [← List.length_append, List.append_nil, List.drop_length]
  rw [a1, show k + 4 = (k + 3) + 1 from rfl, read_some s1 (by simp; omega), if_neg (by simp), a2, show k + 3 = (k + 2) + 1 from rfl, read_some s2 (by simp; omega), if_neg (by simp), a3, show k + 2 = (k + 1) + 1 from rfl, read_some s3 (by omega), a4]
  by_cases hW : W = []
  · subst hW
    rw [if_neg (by simp)]
    have hn : nextU [] = ([], 0, 0) := by rfl
    rw [read_no hn]
    simp
  · rw [if_pos hW]
    simp [hW]

/-- What plain gives. -/
def PlainX (x : List Int) : Prop := ∀ c ∈ x, 0 ≤ c ∧ c ≤ 255 ∧ c ≠ 32 ∧ c ≠ 13 ∧ c ≠ 10
theorem plainX_ok (x : List Int) (h : PlainX x) (hl : x.length ≤ 15) : PlainOk (strOfNums x) := by
  refine ⟨by rw [strNums_size]; exact hl, fun c hc => ?_⟩
  rw [nums_U] at hc
  obtain ⟨z, hz, rfl⟩ := List.mem_map.1 (by simpa [U, Go.Lib.bytesOf] using hc)
  obtain ⟨h1, h2, h3, h4, h5⟩ := h z hz
  obtain ⟨n, rfl⟩ := Int.eq_ofNat_of_zero_le h1
  simp only [Int.toNat_natCast]
  have hn : n < 256 := by omega
  refine ⟨fun e => h3 ?_, fun e => h4 ?_, fun e => h5 ?_⟩ <;>
  · have := congrArg UInt8.toNat e
    rw [UInt8.toNat_ofNat', Nat.mod_eq_of_lt (by simpa using hn)] at this
    simp at this
    omega
theorem plain_run (a : ByteArray) (ha : a.size ≤ 9223372036854775807) : ∀ (d i : Nat), a.size - i = d → i ≤ a.size → ∀ (x : List Int), PlainX x → x.length ≤ 15 → ∀ k, 2 * d + 2 ≤ k → ∃ t, tipstafflaw06_plain.l0 k a x (i : Int) = some t ∧ PlainOk t := by
  intro d
  induction d with
  | zero =>
    intro i hd hi x hx hl k hk
    obtain ⟨k, rfl⟩ : ∃ k', k = k' + 2 := ⟨k - 2, by omega⟩
    simp only [tipstafflaw06_plain.l0, tipstafflaw06_plain.j1]
    rw [if_neg (by omega)]
    exact ⟨_, by simp, plainX_ok x hx hl⟩
  | succ d ih =>
    intro i hd hi x hx hl k hk
    obtain ⟨k, rfl⟩ : ∃ k', k = k' + 2 := ⟨k - 2, by omega⟩
    simp only [tipstafflaw06_plain.l0, tipstafflaw06_plain.j1]
    rw [if_pos (by omega)]
    by_cases h15 : x.length < 15
    · rw [if_pos (by simpa using (by omega : (x.length : Int) < 15)), if_pos (by omega), if_pos (by omega), show wrap64 ((i : Int) + 1) = ((i + 1 : Nat) : Int) by rw [wrap_id ⟨by omega, by omega⟩]; rfl]
      have hr := bt_range a (i : Int)
      have hn := ih (i + 1) (by omega) (by omega)
      by_cases c1 : bt a i = 32
      · rw [if_pos c1]; exact hn x hx hl k (by omega)
      · rw [if_neg c1]
        by_cases c2 : bt a i = 13
        · rw [if_pos c2]; exact hn x hx hl k (by omega)
        · rw [if_neg c2]
          by_cases c3 : bt a i = 10
          · rw [if_pos c3]; exact hn x hx hl k (by omega)
          · rw [if_neg c3, if_pos (by omega)]
            refine hn (x ++ [bt a i]) (fun c hc => ?_) (by simp; omega) k (by omega)
            rcases List.mem_append.1 hc with hc | hc
            · exact hx c hc
            · rw [List.mem_singleton.1 hc]; exact ⟨hr.1, hr.2, c1, c2, c3⟩
    · rw [if_neg (by simp; omega)]
      exact ⟨_, rfl, plainX_ok x hx hl⟩
theorem plain_any (a : ByteArray) (ha : a.size ≤ 9223372036854775807) (w : World) : Calls Tryd.prog 24 #[.string a] w fun e w' => ∃ t, e = .returned (.string t) ∧ Aside0 (PlainOk t) ∧ Aside0 (Below w.heap.size w w') := by
  obtain ⟨t, h1, h2⟩ := plain_run a ha a.size 0 (by omega) (by omega) [] (fun c hc => by cases hc) (by simp) (2 * a.size + 2) (Nat.le_refl _)
  refine (tipstafflaw06_plain.calls (2 * a.size + 2) a t w h1).mono ?_
  rintro e w' ⟨rfl, h⟩
  exact ⟨t, rfl, ⟨h2⟩, ⟨h⟩⟩
end Go.Proofs.YtmbfapgamcbajaaDoor.X
