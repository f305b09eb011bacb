/- Rules in plain words: commands and categories by name; a word's rule. -/
import Derived.Test.YtencimfeipglaaaDoorPRec
import Derived.Test.YtencimfeipglaaaDoorETabF
import Derived.Test.YtencimfeipglaaaDoorXx25
import Derived.Test.YtencimfeipglaaaDoorXx25
import Derived.Test.YtencimfeipglaaaDoorXx20
import Derived.Test.YtencimfeipglaaaDoorXx25
set_option linter.unusedVariables false
set_option linter.unusedSimpArgs false
namespace Go.Proofs.YtencimfeipglaaaDoor.X
open Go.RowKit Go.Lib Go.Proofs.YtencimfeipglaaaDoorW.PrintWords Go.Proofs.YtencimfeipglaaaDoorW.PrintMore

/-- The categories, and all, with their commands. -/
def catTab : List (List UInt8 × Int) := [([97, 108, 108], 72057594037927935), ([114, 101, 97, 100], 3491331137673), ([119, 114, 105, 116, 101], 5304761884534), ([107, 101, 121, 115, 112, 97, 99, 101], 8787503087616), ([115, 116, 114, 105, 110, 103], 511), ([108, 105, 115, 116], 32256), ([104, 97, 115, 104], 2064384), ([115, 101, 116], 132120576), ([115, 111, 114, 116, 101, 100, 115, 101, 116], 8455716864), ([112, 117, 98, 115, 117, 98], 31525197391593472), ([99, 111, 110, 110, 101, 99, 116, 105, 111, 110], 131941395333120), ([116, 114, 97, 110, 115, 97, 99, 116, 105, 111, 110], 4362862139015168), ([97, 100, 109, 105, 110], 36028797018963968)]
def catB (s : ByteArray) : Int × Bool := match catTab.lookup s.data.toList with
  | some m => (m, true)
  | none => (0, false)
theorem catB_cases (s : ByteArray) : (∃ p ∈ catTab, s = mkB p.1 ∧ catB s = (p.2, true)) ∨ ((∀ p ∈ catTab, s.data.toList ≠ p.1) ∧ catB s = (0, false)) := by
  unfold catB
  cases h : catTab.lookup s.data.toList with
  | none =>
    refine .inr ⟨fun p hp e => ?_, rfl⟩
    have := List.lookup_eq_none_iff.1 h p hp
    rw [e] at this
    simp at this
  | some m =>
    obtain ⟨l1, l2, e, _⟩ := List.lookup_eq_some_iff.1 h
    refine .inl ⟨(s.data.toList, m), by rw [e]; simp, (mkB_data s).symm, rfl⟩
theorem cat_in : ∀ p ∈ catTab, table_Cat.f 100 (mkB p.1) = some (p.2, true) := by decide +kernel
theorem cat2_in : ∀ p ∈ catTab, tipstaffref07_Cat.f 200 (mkB p.1) = some (p.2, true) := by decide +kernel
theorem idx_run (l : List ByteArray) (s : ByteArray) (hl : l.length ≤ 1000) (h : ∀ x ∈ l, s.toList ≠ x.toList) : ∀ d i : Nat, l.length - i = d → i ≤ l.length → Ev (fun n => slices_Index_string_string.l0 n l s (l.length : Int) (i : Int)) (-1) := by
  intro d
  induction d with
  | zero =>
    intro i hd hi
    obtain rfl : i = l.length := by omega
    refine Ev.step (f := fun _ => some (-1)) (fun n => ?_) (Ev.now _)
    simp only [slices_Index_string_string.l0]
    rw [if_neg (by omega)]
  | succ d ih =>
    intro i hd hi
    have hil : i < l.length := by omega
    refine Ev.step (f := fun n => slices_Index_string_string.l0 n l s (l.length : Int) ((i + 1 : Nat) : Int)) (fun n => ?_) (ih (i + 1) (by omega) (by omega))
    simp only [slices_Index_string_string.l0]
    rw [if_pos (by omega), if_pos (by omega), if_pos (by omega), rdOf_at l i hil, if_neg (h _ (List.getElem_mem hil)), w64 (by omega) (by omega)]
    rfl
theorem toL {s : ByteArray} {l : List UInt8} (h : s.data.toList ≠ l) : s.toList ≠ l := by rw [toList_data]; exact h
theorem cat_ev (s : ByteArray) : Ev (fun n => table_Cat.f n s) (catB s) := by
  rcases catB_cases s with ⟨p, hp, rfl, hc⟩ | ⟨hn, hc⟩
  · rw [hc]
    exact Ev.of (table_Cat.mono _) (cat_in p hp)
  · rw [hc]
    have hne := toL (hn ([97, 108, 108], 72057594037927935) (by decide))
    obtain ⟨cats, hcats⟩ : ∃ l, table_Cats.f = some l := ⟨_, rfl⟩
    have hall : ∀ x ∈ cats, s.toList ≠ x.toList := by
      intro x hx e
      rw [toList_data, toList_data] at e
      have : ∃ p ∈ catTab, x.data.toList = p.1 := by
        have hh : ∀ x ∈ (table_Cats.f).getD [], ∃ p ∈ catTab, x.data.toList = p.1 := by decide +kernel
        rw [hcats] at hh
        exact hh x hx
      obtain ⟨p, hp, e2⟩ := this
      exact hn p hp (e.trans e2)
    have hlen : cats.length ≤ 1000 := by
      have : ((table_Cats.f).getD []).length ≤ 1000 := by decide +kernel
      rw [hcats] at this
      exact this
    have hi := idx_run cats s hlen hall _ 0 rfl (by omega)
    unfold table_Cat.f
    refine Ev.congr (f := fun n => (slices_Index_string_string.f n cats s).bind fun t => if t < 0 then some (0, false) else table_Cat.l0 n cmdsL t 0 (cmdsL.length : Int) 0) (fun n => ?_) (Ev.bind hi (Ev.congr (fun n => by rw [if_pos (by decide)]) (Ev.now _)))
    rw [show table_commands.f = some cmdsL from rfl, Option.bind_some, if_neg hne, hcats, Option.bind_some]
theorem cat2_run (s : ByteArray) (cats : List ByteArray) (hall : ∀ x ∈ cats, x.toList ≠ s.toList) (hne : s.toList ≠ [97, 108, 108]) (hl : cats.length ≤ 1000) : ∀ d i : Nat, cats.length + 1 - i = d → i ≤ cats.length + 1 → Ev (fun n => tipstaffref07_Cat.l0 n s cmdsL cats (i : Int)) (0, false) := by
  intro d
  induction d with
  | zero =>
    intro i hd hi
    refine Ev.step (f := fun _ => some (0, false)) (fun n => ?_) (Ev.now _)
    simp only [tipstaffref07_Cat.l0]
    rw [if_neg (by omega)]
  | succ d ih =>
    intro i hd hi
    refine Ev.step (f := fun n => tipstaffref07_Cat.j1 n s cmdsL cats (i : Int) true) (fun n => ?_) (Ev.step (f := fun n => tipstaffref07_Cat.l0 n s cmdsL cats ((i + 1 : Nat) : Int)) (fun n => ?_) (ih (i + 1) (by omega) (by omega)))
    · simp only [tipstaffref07_Cat.l0]
      rw [if_pos (by omega)]
      by_cases h : i < cats.length
      · rw [if_pos (by omega), if_pos (by omega), rdOf_at cats i h, if_neg (hall _ (List.getElem_mem h))]
      · rw [if_neg (by omega), if_pos (by omega), bne_iff_ne.2 hne]
    · simp only [tipstaffref07_Cat.j1]
      rw [if_pos trivial, w64 (by omega) (by omega)]
      rfl
theorem cat2_ev (s : ByteArray) : Ev (fun n => tipstaffref07_Cat.f n s) (catB s) := by
  rcases catB_cases s with ⟨p, hp, rfl, hc⟩ | ⟨hn, hc⟩
  · rw [hc]
    exact Ev.of (tipstaffref07_Cat.mono _) (cat2_in p hp)
  · rw [hc]
    have hne := toL (hn ([97, 108, 108], 72057594037927935) (by decide))
    obtain ⟨cats, hcats⟩ : ∃ l, tipstaffref07_Cats.f = some l := ⟨_, rfl⟩
    have hall : ∀ x ∈ cats, x.toList ≠ s.toList := by
      intro x hx e
      rw [toList_data, toList_data] at e
      have : ∃ p ∈ catTab, x.data.toList = p.1 := by
        have hh : ∀ x ∈ (tipstaffref07_Cats.f).getD [], ∃ p ∈ catTab, x.data.toList = p.1 := by decide +kernel
        rw [hcats] at hh
        exact hh x hx
      obtain ⟨p, hp, e2⟩ := this
      exact hn p hp (e.symm.trans e2)
    have hlen : cats.length ≤ 1000 := by
      have : ((tipstaffref07_Cats.f).getD []).length ≤ 1000 := by decide +kernel
      rw [hcats] at this
      exact this
    refine Ev.congr (fun n => ?_) (cat2_run s cats hall hne hlen _ 0 rfl (by omega))
    unfold tipstaffref07_Cat.f
    rw [show tipstaffref07_All.f = some cmdsL from rfl, Option.bind_some, hcats, Option.bind_some]
    rfl

/-! Names. -/
theorem find2_run (s : ByteArray) (hs : s.size ≤ 1000) : ∀ d i : Nat, 56 - i = d → i ≤ 56 → (∀ j, j < i → ((cmdsL.getD j z31).f0.toList == (lowB s).toList) = false) →
    Ev (fun n => tipstaffref07_Find.l0 n s cmdsL (i : Int)) (findB s, decide (0 ≤ findB s)) := by
  intro d
  induction d with
  | zero =>
    intro i hd hi hj
    obtain rfl : i = 56 := by omega
    have hf : findB s = -1 := idxN_none _ _ (by rw [cmds_len]; exact hj)
    rw [hf]
    refine Ev.step (f := fun _ => some (-1, false)) (fun n => ?_) (Ev.now _)
    simp only [tipstaffref07_Find.l0]
    rw [if_neg (show ¬ ((56 : Nat) : Int) < (cmdsL.length : Int) by rw [cmds_len]; omega)]
  | succ d ih =>
    intro i hd hi hj
    refine Ev.step (f := fun n => (tipstaffref01_Lower.f n s).bind fun t => if ((rd_T31 cmdsL (i : Int)).f0).toList = t.toList then some ((i : Int), true) else tipstaffref07_Find.l0 n s cmdsL ((i + 1 : Nat) : Int)) (fun n => ?_) (Ev.bind (ref_low_ev s hs) ?_)
    · simp only [tipstaffref07_Find.l0]
      rw [if_pos (show (i : Int) < (cmdsL.length : Int) by rw [cmds_len]; omega), if_pos (show (0 : Int) ≤ (i : Int) by omega), w64 (by omega) (by omega)]
      rfl
    · cases hb : ((cmdsL.getD i z31).f0.toList == (lowB s).toList) with
      | true =>
        have hf : findB s = i := idxN_at _ _ i (by rw [cmds_len]; omega) hj hb
        have he : (rd_T31 cmdsL (i : Int)).f0.toList = (lowB s).toList := beq_iff_eq.1 hb
        rw [hf, decide_eq_true (by omega)]
        exact Ev.congr (fun n => by rw [if_pos he]) (Ev.now _)
      | false =>
        have he : ¬ (rd_T31 cmdsL (i : Int)).f0.toList = (lowB s).toList := beq_eq_false_iff_ne.1 hb
        refine Ev.congr (fun n => by rw [if_neg he]) (ih (i + 1) (by omega) (by omega) fun j hjl => ?_)
        rcases (by omega : j < i ∨ j = i) with h | rfl
        · exact hj j h
        · exact hb
theorem find2_ev (s : ByteArray) (hs : s.size ≤ 1000) : Ev (fun n => tipstaffref07_Find.f n s) (findB s, decide (0 ≤ findB s)) := by
  refine Ev.congr (fun n => ?_) (find2_run s hs _ 0 rfl (by omega) (fun j h => absurd h (Nat.not_lt_zero _)))
  unfold tipstaffref07_Find.f
  rw [show tipstaffref07_All.f = some cmdsL from rfl, Option.bind_some]
  rfl

/-! What a text begins with. -/
def pre (m l : List UInt8) : Bool := m.isPrefixOf l
theorem pre_take {m l : List UInt8} : pre m l = true ↔ l.take m.length = m := by
  unfold pre
  rw [List.isPrefixOf_iff_prefix, List.prefix_iff_eq_take]
  exact eq_comm
theorem pre_len {m l : List UInt8} (h : pre m l = true) : m.length ≤ l.length := by
  unfold pre at h
  rw [List.isPrefixOf_iff_prefix] at h
  exact h.length_le
theorem ext_take (s : ByteArray) (n : Nat) : (s.extract 0 n).toList = s.data.toList.take n := by rw [toList_data, Lib.extract_data]; simp
theorem ext_drop (s : ByteArray) (n : Nat) : s.extract n s.size = mkB (s.data.toList.drop n) := by
  apply str_ext'
  rw [data_mkB, Lib.extract_data, List.take_of_length_le]
  rw [List.length_drop, size_data]
  omega
theorem begins_f (s m : ByteArray) : tipstaffref17_begins.f s m = some (if pre m.data.toList s.data.toList = true then (mkB (s.data.toList.drop m.size), true) else (⟨#[]⟩, false)) := by
  unfold tipstaffref17_begins.f
  by_cases h : (s.size : Int) < (m.size : Int)
  · rw [if_pos h, if_neg (fun hp => by have := pre_len hp; rw [size_data, size_data] at this; omega)]
  · rw [if_neg h, if_pos (by omega), if_pos (by omega), Int.toNat_natCast, ext_take, toList_data, ext_drop]
    by_cases hp : pre m.data.toList s.data.toList = true
    · rw [if_pos hp, if_pos (by have := pre_take.1 hp; rw [size_data] at this; exact this)]
    · rw [if_neg hp, if_neg (fun e => hp (pre_take.2 (by rw [size_data]; exact e)))]
theorem cutp_f (s m : ByteArray) : strings_CutPrefix.f s m = some (if pre m.data.toList s.data.toList = true then (mkB (s.data.toList.drop m.size), true) else (s, false)) := by
  unfold strings_CutPrefix.f stringslite_CutPrefix.f stringslite_HasPrefix.f
  by_cases h : (s.size : Int) ≥ (m.size : Int)
  · rw [if_pos h, if_pos (by omega), if_pos (by omega), Option.bind_some, Int.toNat_natCast, ext_take, toList_data]
    by_cases hp : pre m.data.toList s.data.toList = true
    · have e : (s.data.toList.take m.size == m.data.toList) = true := beq_iff_eq.2 (by have := pre_take.1 hp; rw [size_data] at this; exact this)
      rw [if_pos e, if_pos (by omega), if_pos (by omega), if_pos hp, Option.bind_some, ext_drop]
    · have e : (s.data.toList.take m.size == m.data.toList) = false := beq_eq_false_iff_ne.2 (fun e => hp (pre_take.2 (by rw [size_data]; exact e)))
      rw [e, if_neg (by decide), if_neg hp, Option.bind_some]
  · rw [if_neg h, Option.bind_some, if_neg (by decide), Option.bind_some, if_neg (fun hp => by have := pre_len hp; rw [size_data, size_data] at this; omega)]

/-- The commands that a name stands for. -/
def maskB (s : ByteArray) : Int × Bool :=
  if pre [64] s.data.toList = true then catB (mkB (s.data.toList.drop 1))
  else if 0 ≤ findB s ∧ (lowB s).toList = s.toList then (shl .u64 1 (findB s), true) else (0, false)
theorem mask_end (n : Int) (l : ByteArray) (s : ByteArray) : (if decide (0 ≤ n) = true then (some l).bind fun t => if t.toList = s.toList then (if 0 ≤ n then some (shl .u64 1 n, true) else none) else some (0, false) else some (0, false)) = some (if 0 ≤ n ∧ l.toList = s.toList then (shl .u64 1 n, true) else (0, false)) := by
  by_cases h : 0 ≤ n
  · rw [if_pos (decide_eq_true h), Option.bind_some]
    by_cases h2 : l.toList = s.toList
    · rw [if_pos h2, if_pos h, if_pos ⟨h, h2⟩]
    · rw [if_neg h2, if_neg (fun q => h2 q.2)]
  · rw [if_neg (by rw [decide_eq_false h]; exact Bool.false_ne_true), if_neg (fun q => h q.1)]
theorem mask_ev (s : ByteArray) (hs : s.size ≤ 1000) : Ev (fun n => rule_mask.f n s) (maskB s) := by
  unfold maskB
  by_cases hp : pre [64] s.data.toList = true
  · rw [if_pos hp]
    have hc : strings_CutPrefix.f s ⟨#[64]⟩ = some (mkB (s.data.toList.drop 1), true) := by rw [cutp_f]; rw [show (⟨#[64]⟩ : ByteArray).data.toList = [64] from rfl, if_pos hp]; rfl
    refine Ev.congr (f := fun n => (table_Cat.f n (mkB (s.data.toList.drop 1))).bind fun b => some (b.1, b.2)) (fun n => ?_) (Ev.bind (cat_ev _) (Ev.now _))
    unfold rule_mask.f
    rw [hc, Option.bind_some, if_pos rfl]
  · rw [if_neg hp]
    have hc : strings_CutPrefix.f s ⟨#[64]⟩ = some (s, false) := by rw [cutp_f]; rw [show (⟨#[64]⟩ : ByteArray).data.toList = [64] from rfl, if_neg hp]
    refine Ev.congr (fun n => ?_) (Ev.now _)
    unfold rule_mask.f
    rw [hc, Option.bind_some, if_neg Bool.false_ne_true]
    have h1 : table_Find.f s = some (findB s, decide (0 ≤ findB s)) := by unfold table_Find.f; rw [if_pos (by omega)]
    rw [h1, Option.bind_some, low_f s (by omega)]
    exact mask_end _ _ _
theorem mask2_ev (s : ByteArray) (hs : s.size ≤ 1000) : Ev (fun n => tipstaffref17_mask.f n s) (maskB s) := by
  unfold maskB
  have hb := begins_f s ⟨#[64]⟩
  rw [show (⟨#[64]⟩ : ByteArray).data.toList = [64] from rfl] at hb
  by_cases hp : pre [64] s.data.toList = true
  · rw [if_pos hp] at hb ⊢
    refine Ev.congr (f := fun n => (tipstaffref07_Cat.f n (mkB (s.data.toList.drop 1))).bind fun b => some (b.1, b.2)) (fun n => ?_) (Ev.bind (cat2_ev _) (Ev.now _))
    unfold tipstaffref17_mask.f
    rw [hb, Option.bind_some, if_pos rfl]
    rfl
  · rw [if_neg hp] at hb ⊢
    refine Ev.congr (f := fun n => (tipstaffref07_Find.f n s).bind fun b => if b.2 = true then ((tipstaffref01_Lower.f n s).bind fun t => if t.toList = s.toList then (if 0 ≤ b.1 then some (shl .u64 1 b.1, true) else none) else some (0, false)) else some (0, false)) (fun n => ?_) (Ev.bind (find2_ev s hs) ?_)
    · unfold tipstaffref17_mask.f
      rw [hb, Option.bind_some, if_neg Bool.false_ne_true]
    · by_cases h : 0 ≤ findB s
      · refine Ev.congr (f := fun n => (tipstaffref01_Lower.f n s).bind fun t => if t.toList = s.toList then (if 0 ≤ findB s then some (shl .u64 1 (findB s), true) else none) else some (0, false)) (fun n => by rw [if_pos (decide_eq_true h)]) (Ev.bind (ref_low_ev s hs) (Ev.congr (fun n => ?_) (Ev.now _)))
        by_cases h2 : (lowB s).toList = s.toList
        · rw [if_pos h2, if_pos h, if_pos ⟨h, h2⟩]
        · rw [if_neg h2, if_neg (fun q => h2 q.2)]
      · refine Ev.congr (fun n => ?_) (Ev.now _)
        rw [if_neg (by rw [decide_eq_false h]; exact Bool.false_ne_true), if_neg (fun q => h q.1)]
end Go.Proofs.YtencimfeipglaaaDoor.X
