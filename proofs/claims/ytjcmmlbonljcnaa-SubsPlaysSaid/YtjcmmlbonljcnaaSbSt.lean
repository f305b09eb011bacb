/- The state of who hears what, in memory; its keys; and what is done to it, in plain Lean. -/
import Derived.Test.YtjcmmlbonljcnaaMapOps
import Derived.StringKeys
import Derived.DeepKeys4
import Derived.KernelRfl
import Derived.Test.YtjcmmlbonljcnaaWWords
import Derived.Test.YtjcmmlbonljcnaaWMore
import Derived.Test.YtjcmmlbonljcnaaWLast
import Derived.Test.YtjcmmlbonljcnaaRows
set_option linter.unusedVariables false
set_option linter.unusedSimpArgs false
namespace Go.Proofs.Ytjcmmlbonljcnaa.X
open Go.RowKit Go.Maps Go.ChangeMaps Go.MapKept Go.Proofs.Ytjcmmlbonljcnaa.Mv Go.Proofs.YtjcmmlbonljcnaaW.PrintWords

theorem laidOutS : laidOutB Try.prog = true := by kernel_rfl
theorem wideP : (match Try.prog.underlying 52 with | some (.array _ _) | some (.struct _) => true | _ => false) = true := by kernel_rfl
theorem rowP : 52 < Try.prog.types.size := of_decide_eq_true (by kernel_rfl)
theorem lawP : Keyed Try.prog 52 := Keyed.of_law (deep_law_laid laidOutS (m := 2) (by omega) rowP (by kernel_rfl) wideP)

abbrev Pr := Int × ByteArray
def prV (p : Pr) : Value := .agg #[.int .i64 p.1, .string p.2]
def prL (p : Pr) : Lit := .string (keyBytes [.int .i64 p.1, .string p.2.data.toList])
/-- A pair that may be. -/
def PrOk (p : Pr) : Prop := (Lit.int .i64 p.1).wf = true ∧ p.2.size ≤ maxLen

theorem sizeP : ∃ m, Try.prog.types.size = m + 2 := ⟨Try.prog.types.size - 2, by
  have : 1 < Try.prog.types.size := of_decide_eq_true (by kernel_rfl)
  omega⟩
theorem cellsP : Try.prog.cellsOf 52 = 2 := by kernel_rfl
theorem keyP {p : Pr} (h : PrOk p) : keyOf Try.prog 52 (prV p) = some (prL p) := by
  obtain ⟨m, hm⟩ := sizeP
  have hkt : Try.prog.keyType 52 = true := by kernel_rfl
  have hu := Try.underlying52
  unfold keyOf
  rw [hu]
  simp only []
  rw [if_pos (by simp [hkt, prV, Value.formed, hu, cellsP])]
  have c3 : Try.prog.cellsOf 3 = 1 := by kernel_rfl
  have c9 : Try.prog.cellsOf 9 = 1 := by kernel_rfl
  have u3 := Try.underlying3
  have u9 := Try.underlying9
  rw [hm]
  obtain ⟨c, t⟩ := p
  obtain ⟨h1, h2⟩ := h
  simp [Program.keyLits, hu, u3, u9, c3, c9, cellsP, prV, prL, Value.cells, h1, h2]
theorem keyP_inv {key : Value} {kl : Lit} (h : keyOf Try.prog 52 key = some kl) : ∃ p, key = prV p ∧ kl = prL p ∧ PrOk p := by
  have h0 := h
  have hu := Try.underlying52
  have c3 : Try.prog.cellsOf 3 = 1 := by kernel_rfl
  have c9 : Try.prog.cellsOf 9 = 1 := by kernel_rfl
  have u3 := Try.underlying3
  have u9 := Try.underlying9
  obtain ⟨m, hm⟩ := sizeP
  unfold keyOf at h
  rw [hu] at h
  simp only [] at h
  split at h
  · rename_i hc
    cases key with
    | agg xs =>
      obtain ⟨l⟩ := xs
      simp [Value.formed, hu, cellsP] at hc
      match l, hc.2 with
      | [a, b], _ =>
        rw [hm] at h
        have hne : ∀ (d : Nat) (x : Value), (∀ q n, x ≠ .int q n) → Try.prog.keyLits (d + 1) 3 [x] = none := by
          intro d x hx
          cases x <;> simp [Program.keyLits, u3] at hx ⊢
        have hns : ∀ (d : Nat) (x : Value), (∀ t, x ≠ .string t) → Try.prog.keyLits (d + 1) 9 [x] = none := by
          intro d x hx
          cases x <;> simp [Program.keyLits, u9] at hx ⊢
        have ha : ∃ q n, a = .int q n := by
          refine Classical.byContradiction fun hn => ?_
          have hx := hne (m + 1) a (fun q n e => hn ⟨q, n, e⟩)
          unfold Program.keyLits at h
          simp [hu, c3, c9, cellsP, Value.cells, hx] at h
        have hb : ∃ t, b = .string t := by
          refine Classical.byContradiction fun hn => ?_
          have hx := hns (m + 1) b (fun t e => hn ⟨t, e⟩)
          unfold Program.keyLits at h
          simp [hu, c3, c9, cellsP, Value.cells, hx] at h
        obtain ⟨q, n, rfl⟩ := ha
        obtain ⟨t, rfl⟩ := hb
        by_cases hq : q = .i64 ∧ (Lit.int .i64 n).wf = true
        · by_cases ht : t.size ≤ maxLen
          · obtain ⟨rfl, hw⟩ := hq
            have := keyP (p := (n, t)) ⟨hw, ht⟩
            have e : prV (n, t) = .agg { toList := [.int .i64 n, .string t] } := rfl
            rw [e, h0] at this
            exact ⟨(n, t), rfl, Option.some.inj this, hw, ht⟩
          · simp [Program.keyLits, hu, u3, u9, c3, c9, cellsP, Value.cells, ht] at h
        · simp [Program.keyLits, hu, u3, u9, c3, c9, cellsP, Value.cells, hq] at h
    | _ => simp [Value.formed, hu] at hc
  · cases h
/-- Pairs that may be have keys of their own. -/
theorem prL_inj {p q : Pr} (hp : PrOk p) (hq : PrOk q) (h : prL p = prL q) : p = q := by
  have h1 := keyP hp
  have h2 := keyP hq
  rw [h] at h1
  have := lawP.inj h1 h2
  obtain ⟨a, b⟩ := p
  obtain ⟨c, d⟩ := q
  simp [prV] at this
  rw [this.1, this.2]

/-! ### What is done, in plain Lean: pairs in their order -/
def lessP (p q : Pr) : Bool := decide (p.1 < q.1) || (decide (p.1 = q.1) && decide (p.2.data.toList < q.2.data.toList))
def Srt (L : List Pr) : Prop := L.Pairwise fun p q => lessP p q = true
def remP (p : Pr) (L : List Pr) : List Pr := L.filter fun q => decide (q ≠ p)
def insP (p : Pr) : List Pr → List Pr
  | [] => [p]
  | q :: r => if lessP p q = true then p :: q :: r else q :: insP p r
def addP (p : Pr) (L : List Pr) : List Pr := insP p (remP p L)
def dropP (c : Int) (L : List Pr) : List Pr := L.filter fun q => decide (q.1 ≠ c)
def ofP (c : Int) (L : List Pr) : List ByteArray := (L.filter fun q => decide (q.1 = c)).map (·.2)
def hearP (s : ByteArray) (L : List Pr) : List Int := (L.filter fun q => decide (q.2 = s)).map (·.1)

theorem lt_tri (a b : List UInt8) : a < b ∨ a = b ∨ b < a := by
  rcases Classical.em (a < b) with h | h
  · exact .inl h
  · rcases Classical.em (b < a) with h2 | h2
    · exact .inr (.inr h2)
    · exact .inr (.inl (List.le_antisymm (List.not_lt.1 h2) (List.not_lt.1 h)))
theorem ba_ext {a b : ByteArray} (h : a.data.toList = b.data.toList) : a = b := by
  cases a; cases b
  simp at h
  have : _ = _ := Array.toList_inj.1 (by simpa using h)
  rw [this]
theorem less_iff {p q : Pr} : lessP p q = true ↔ p.1 < q.1 ∨ p.1 = q.1 ∧ p.2.data.toList < q.2.data.toList := by
  unfold lessP
  simp
theorem less_trans {p q r : Pr} (h1 : lessP p q = true) (h2 : lessP q r = true) : lessP p r = true := by
  rw [less_iff] at h1 h2 ⊢
  rcases h1 with h1 | ⟨e1, h1⟩ <;> rcases h2 with h2 | ⟨e2, h2⟩
  · exact .inl (by omega)
  · exact .inl (by omega)
  · exact .inl (by omega)
  · exact .inr ⟨by omega, List.lt_trans h1 h2⟩
theorem less_irrefl (p : Pr) : lessP p p = false := by
  rw [Bool.eq_false_iff]
  intro h
  rw [less_iff] at h
  rcases h with h | ⟨_, h⟩
  · omega
  · exact List.lt_irrefl _ h
theorem less_total {p q : Pr} (h : p ≠ q) (h1 : lessP p q = false) : lessP q p = true := by
  rw [Bool.eq_false_iff, ne_eq, less_iff] at h1
  rw [less_iff]
  rcases Int.lt_trichotomy p.1 q.1 with h2 | h2 | h2
  · exact absurd (.inl h2) h1
  · rcases lt_tri p.2.data.toList q.2.data.toList with h3 | h3 | h3
    · exact absurd (.inr ⟨h2, h3⟩) h1
    · exact absurd (Prod.ext h2 (ba_ext h3)) h
    · exact .inr ⟨h2.symm, h3⟩
  · exact .inl h2
theorem mem_ins {p q : Pr} : ∀ {L : List Pr}, q ∈ insP p L ↔ q = p ∨ q ∈ L
  | [] => by simp [insP]
  | r :: L => by
    unfold insP
    split
    · simp
    · simp [mem_ins (L := L)]
      constructor
      · rintro (h | h | h)
        · exact .inr (.inl h)
        · exact .inl h
        · exact .inr (.inr h)
      · rintro (h | h | h)
        · exact .inr (.inl h)
        · exact .inl h
        · exact .inr (.inr h)
theorem srt_ins {p : Pr} : ∀ {L : List Pr}, Srt L → p ∉ L → Srt (insP p L)
  | [], _, _ => by simp [insP, Srt]
  | r :: L, h, hn => by
    obtain ⟨h1, h2⟩ := List.pairwise_cons.1 h
    unfold insP
    split
    · rename_i hl
      refine List.pairwise_cons.2 ⟨fun q hq => ?_, h⟩
      rcases List.mem_cons.1 hq with rfl | hq
      · exact hl
      · exact less_trans hl (h1 q hq)
    · rename_i hl
      refine List.pairwise_cons.2 ⟨fun q hq => ?_, srt_ins h2 (fun hm => hn (List.mem_cons_of_mem _ hm))⟩
      rcases mem_ins.1 hq with rfl | hq
      · exact less_total (fun e => hn (e ▸ List.mem_cons_self)) (by simpa using hl)
      · exact h1 q hq
theorem mem_rem {p q : Pr} {L : List Pr} : q ∈ remP p L ↔ q ∈ L ∧ q ≠ p := by simp [remP]
theorem mem_add {p q : Pr} {L : List Pr} : q ∈ addP p L ↔ q = p ∨ q ∈ L := by
  unfold addP
  rw [mem_ins, mem_rem]
  constructor
  · rintro (h | h)
    · exact .inl h
    · exact .inr h.1
  · rintro (h | h)
    · exact .inl h
    · by_cases e : q = p
      · exact .inl e
      · exact .inr ⟨h, e⟩
theorem mem_drop {c : Int} {q : Pr} {L : List Pr} : q ∈ dropP c L ↔ q ∈ L ∧ q.1 ≠ c := by simp [dropP]
theorem srt_rem {p : Pr} {L : List Pr} (h : Srt L) : Srt (remP p L) := List.Pairwise.filter _ h
theorem srt_drop {c : Int} {L : List Pr} (h : Srt L) : Srt (dropP c L) := List.Pairwise.filter _ h
theorem srt_add {p : Pr} {L : List Pr} (h : Srt L) : Srt (addP p L) := srt_ins (srt_rem h) (fun hm => (mem_rem.1 hm).2 rfl)
theorem srt_nodup {L : List Pr} (h : Srt L) : L.Nodup := h.imp fun hl e => by rw [e, less_irrefl] at hl; cases hl
theorem mem_of {c : Int} {s : ByteArray} {L : List Pr} : s ∈ ofP c L ↔ (c, s) ∈ L := by
  unfold ofP
  simp
theorem mem_hear {c : Int} {s : ByteArray} {L : List Pr} : c ∈ hearP s L ↔ (c, s) ∈ L := by
  unfold hearP
  simp
theorem len_ins {p : Pr} : ∀ {L : List Pr}, (insP p L).length = L.length + 1
  | [] => rfl
  | r :: L => by
    unfold insP
    split
    · rfl
    · simp [len_ins (L := L)]
theorem len_add {p : Pr} {L : List Pr} : (addP p L).length ≤ L.length + 1 := by
  unfold addP
  rw [len_ins]
  have := List.length_filter_le (fun q => decide (q ≠ p)) L
  unfold remP
  omega
end Go.Proofs.Ytjcmmlbonljcnaa.X
