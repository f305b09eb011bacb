/- What comes in, read as data, told by the kinds. -/
import Derived.Test.YtmhdkjihhdljlaaWWords
import Derived.Test.YtmhdkjihhdljlaaWArr
import Derived.OpenShut
import Derived.ProofKit
set_option linter.unusedVariables false
set_option linter.unusedSimpArgs false
namespace Go.Proofs.Ytmhdkjihhdljlaa
open Go.RowKit Go.Proofs.YtmhdkjihhdljlaaW.PrintWords

/-- Whatever can be read as data of type t is of the kind d, and ok. -/
def Opens {α : Type} (P : Program) (t : TypeId) (d : Kd α) (ok : α → Prop) : Prop :=
  P.cellsOf t = d.sz ∧ ∀ (H : Type) (enc : TypeId × Value → H) (w : World) (base : Nat) (spare : Nat → Bool) (held : Bool) (fuel : Nat) (cs : List Value) (y : DataW H × List MemPlace), DataW.trod enc P w base spare held fuel t cs = some y → ∃ x, d.K w x cs ∧ ok x

section
variable {P : Program} {t e : TypeId}
theorem Opens.bool (ht : P.underlying t = some .bool) (hc : P.cellsOf t = 1) : Opens P t Kd.bool (fun _ => True) := ⟨hc, fun H enc w base spare held fuel cs y h => by
  obtain ⟨b, rfl, _⟩ := DataW.trod_bool ht h
  exact ⟨b, rfl, trivial⟩⟩
theorem Opens.int {k : IntKind} (ht : P.underlying t = some (.int k)) (hc : P.cellsOf t = 1) : Opens P t (Kd.int k) (fun x => (Lit.int k x).wf = true) := ⟨hc, fun H enc w base spare held fuel cs y h => by
  obtain ⟨b, rfl, _, hw⟩ := DataW.trod_int ht h
  exact ⟨b, rfl, hw⟩⟩
theorem Opens.string (ht : P.underlying t = some .string) (hc : P.cellsOf t = 1) : Opens P t Kd.string (fun s => s.size ≤ maxLen) := ⟨hc, fun H enc w base spare held fuel cs y h => by
  obtain ⟨b, rfl, _, hw⟩ := DataW.trod_string ht h
  exact ⟨b, rfl, hw⟩⟩

theorem cells_get {w : World} {base n : Nat} {a : Addr} {cs : List Value} (h : w.cells? base a n = some cs) : cs.length = n ∧ ∀ i u, cs[i]? = some u → w.cell? (a.add i) = some u := by
  unfold World.cells? at h
  split at h
  · have hl := mapM_some_length h
    refine ⟨by simpa using hl, fun i u hu => ?_⟩
    have hi : i < n := by
      have := (List.getElem?_eq_some_iff.1 hu).1
      rw [hl] at this
      simpa using this
    have := mapM_some_get h i i (by simp [hi])
    rw [this, hu]
  · cases h

/-- A row that is read, elements of kind d. -/
theorem opens_row {α : Type} {d : Kd α} {ok : α → Prop} (hd : Opens P e d ok) {H : Type} {enc : TypeId × Value → H} {w : World} {base n len : Nat} {a : Addr} {spare : Nat → Bool} {held : Bool} {elems : List (DataW H × List MemPlace)}
    (hl : elems.length = len) (he : ∀ i, i < len → (w.cells? base (a.add (i * P.cellsOf e)) (P.cellsOf e)).bind (DataW.trod enc P w base spare held n e) = elems[i]?) :
    ∃ xs : List α, xs.length = len ∧ (∀ x ∈ xs, ok x) ∧ ∀ j p, xs[j]? = some p → ∃ c, c.length = d.sz ∧ d.K w p c ∧ ∀ i u, c[i]? = some u → w.cell? (a.add (j * d.sz + i)) = some u := by
  induction len generalizing elems with
  | zero => exact ⟨[], rfl, fun x hx => by simp at hx, fun j p hp => by simp at hp⟩
  | succ m ih =>
    obtain ⟨xs, h1, h2, h3⟩ := ih (elems := elems.take m) (by rw [List.length_take]; omega) (fun i hi => by rw [he i (by omega), List.getElem?_take, if_pos hi])
    have hm := he m (by omega)
    rw [List.getElem?_eq_getElem (by omega)] at hm
    obtain ⟨cs, hcs, htr⟩ := Option.bind_eq_some_iff.1 hm
    obtain ⟨x, hk, hok⟩ := hd.2 H enc w base spare held n cs _ htr
    obtain ⟨c1, c2⟩ := cells_get hcs
    refine ⟨xs ++ [x], by simp [h1], fun z hz => ?_, fun j p hp => ?_⟩
    · rcases List.mem_append.1 hz with hz | hz
      · exact h2 z hz
      · rw [List.mem_singleton.1 hz]; exact hok
    · rcases Nat.lt_or_ge j xs.length with hj | hj
      · rw [List.getElem?_append_left hj] at hp
        exact h3 j p hp
      · have hj' : j = xs.length := by
          have := (List.getElem?_eq_some_iff.1 hp).1
          rw [List.length_append, List.length_singleton] at this
          omega
        subst hj'
        have hp' : p = x := by simpa using hp.symm
        subst hp'
        refine ⟨cs, by rw [c1, hd.1], hk, fun i u hu => ?_⟩
        have := c2 i u hu
        have ha : (a.add (m * P.cellsOf e)).add i = a.add (xs.length * d.sz + i) := by
          rw [h1, hd.1]
          unfold Addr.add
          by_cases hz : m * d.sz = 0 <;> by_cases hi : i = 0 <;> simp [hz, hi, Nat.add_assoc]
        rw [← ha]
        exact this

theorem Opens.slice {α : Type} {d : Kd α} {ok : α → Prop} (ht : P.underlying t = some (.slice e)) (hc : P.cellsOf t = 1) (hd : Opens P e d ok) : Opens P t (Kd.slice e d) (fun l => l.length ≤ maxLen ∧ ∀ x ∈ l, ok x) := ⟨hc, fun H enc w base spare held fuel cs y h => by
  rcases DataW.trod_slice ht h with ⟨rfl, _⟩ | ⟨a, len, cap, elems, rest, n, rfl, rfl, _, hb, h1, h2, h3, h4, _⟩
  · exact ⟨[], ⟨none, 0, rfl, by simp, ⟨rfl, by simp, fun h => by simp at h⟩⟩, by simp, fun x hx => by simp at hx⟩
  · obtain ⟨xs, k1, k2, k3⟩ := opens_row hd h3 h4
    subst k1
    exact ⟨xs, ⟨some a, cap, rfl, h1, ⟨rfl, by unfold maxLen at h2; omega, fun _ => ⟨a, rfl, k3⟩⟩⟩, by omega, k2⟩⟩

theorem Opens.array {α : Type} {n : Nat} {d : Kd α} {ok : α → Prop} (hs : 0 < d.sz) (ht : P.underlying t = some (.array n e)) (hc : P.cellsOf t = n * d.sz) (hd : Opens P e d ok) : Opens P t (Kd.arr n d hs) (fun l => ∀ x ∈ l, ok x) := ⟨hc, fun H enc w base spare held fuel cs y h => by
  obtain ⟨xs, m, rfl, _, hl, hn, he⟩ := DataW.trod_array ht h
  have key : ∀ k, k ≤ n → ∃ l : List α, l.length = k ∧ (∀ x ∈ l, ok x) ∧ ∀ j p, l[j]? = some p → d.K w p ((cs.drop (j * d.sz)).take d.sz) := by
    intro k
    induction k with
    | zero => exact fun _ => ⟨[], rfl, fun x hx => by simp at hx, fun j p hp => by simp at hp⟩
    | succ k ih =>
      intro hk
      obtain ⟨l, l1, l2, l3⟩ := ih (by omega)
      have := he k (by omega)
      rw [List.getElem?_eq_getElem (by omega)] at this
      obtain ⟨x, hx, hok⟩ := hd.2 H enc w base spare held m _ _ this
      refine ⟨l ++ [x], by simp [l1], fun z hz => ?_, fun j p hp => ?_⟩
      · rcases List.mem_append.1 hz with hz | hz
        · exact l2 z hz
        · rw [List.mem_singleton.1 hz]; exact hok
      · rcases Nat.lt_or_ge j l.length with hj | hj
        · rw [List.getElem?_append_left hj] at hp
          exact l3 j p hp
        · have hj' : j = l.length := by
            have := (List.getElem?_eq_some_iff.1 hp).1
            rw [List.length_append, List.length_singleton] at this
            omega
          subst hj'
          have hp' : p = x := by simpa using hp.symm
          subst hp'
          rw [l1]
          rw [hd.1] at hx
          exact hx
  obtain ⟨l, l1, l2, l3⟩ := key n (Nat.le_refl _)
  exact ⟨l, ⟨l1, ⟨by rw [hl, hc, l1], l3⟩⟩, l2⟩⟩

/-- Fields, from a place on. -/
def OpensFs {α : Type} (P : Program) (fs : List Field) (off : Nat) (d : Kd α) (ok : α → Prop) : Prop :=
  ∀ (H : Type) (enc : TypeId × Value → H) (w : World) (base : Nat) (spare : Nat → Bool) (held : Bool) (fuel : Nat) (cs : List Value) (ys : List (DataW H × List MemPlace)), (fs.mapM fun f => DataW.trod enc P w base spare held fuel f.type ((cs.drop f.offset).take (P.cellsOf f.type))) = some ys → cs.length = off + d.sz → ∃ x, d.K w x (cs.drop off) ∧ ok x
theorem OpensFs.last {α : Type} {d : Kd α} {ok : α → Prop} {f : Field} {off : Nat} (ho : f.offset = off) (hd : Opens P f.type d ok) : OpensFs P [f] off d ok := fun H enc w base spare held fuel cs ys h hl => by
  rw [List.mapM_cons] at h
  obtain ⟨y, hy, _⟩ := Option.bind_eq_some_iff.1 h
  rw [ho, hd.1, List.take_of_length_le (by rw [List.length_drop]; omega)] at hy
  exact hd.2 H enc w base spare held fuel _ _ hy
theorem OpensFs.cons {α β : Type} {d : Kd α} {ok : α → Prop} {d' : Kd β} {ok' : β → Prop} {f : Field} {fs : List Field} {off : Nat} (ho : f.offset = off) (hd : Opens P f.type d ok) (hr : OpensFs P fs (off + d.sz) d' ok') : OpensFs P (f :: fs) off (Kd.pair d d') (fun x => ok x.1 ∧ ok' x.2) := fun H enc w base spare held fuel cs ys h hl => by
  rw [List.mapM_cons] at h
  obtain ⟨y, hy, h2⟩ := Option.bind_eq_some_iff.1 h
  obtain ⟨ys', hys, _⟩ := Option.bind_eq_some_iff.1 h2
  rw [ho, hd.1] at hy
  obtain ⟨x, hx, hok⟩ := hd.2 H enc w base spare held fuel _ _ hy
  have hl' : cs.length = off + (d.sz + d'.sz) := hl
  obtain ⟨x', hx', hok'⟩ := hr H enc w base spare held fuel cs ys' hys (by omega)
  refine ⟨(x, x'), ⟨_, _, ?_, hx, hx'⟩, hok, hok'⟩
  rw [← List.drop_drop, List.take_append_drop]
theorem Opens.struct {α : Type} {d : Kd α} {ok : α → Prop} {fs : Array Field} (ht : P.underlying t = some (.struct fs)) (hc : P.cellsOf t = d.sz) (hr : OpensFs P fs.toList 0 d ok) : Opens P t d ok := ⟨hc, fun H enc w base spare held fuel cs y h => by
  cases fuel with
  | zero => simp [DataW.trod] at h
  | succ m =>
    unfold DataW.trod at h
    rw [ht] at h
    split at h <;> simp_all
    obtain ⟨hl, a, hp, hd⟩ := h
    obtain ⟨x, h1, h2⟩ := hr H enc w base spare held m _ a hp (by rw [hl, Nat.zero_add])
    exact ⟨x, by simpa using h1, h2⟩⟩
theorem Opens.imp {α : Type} {d : Kd α} {ok ok' : α → Prop} (h : Opens P t d ok) (hi : ∀ x, ok x → ok' x) : Opens P t d ok' := ⟨h.1, fun H enc w base spare held fuel cs y hy => by
  obtain ⟨x, h1, h2⟩ := h.2 H enc w base spare held fuel cs y hy
  exact ⟨x, h1, hi x h2⟩⟩
end

theorem okWide_arr {P : Program} {w : World} {r : Reach} {base n : Nat} {t e : TypeId} {v : Value} (ht : P.underlying t = some (.array n e)) (h : Value.okWide P w r base t v) : ∃ cs, v = .agg cs := by
  unfold Value.okWide at h
  rw [ht] at h
  obtain ⟨cs, rfl, _⟩ := h
  exact ⟨cs, rfl⟩
theorem okWide_str {P : Program} {w : World} {r : Reach} {base : Nat} {fs : Array Field} {t : TypeId} {v : Value} (ht : P.underlying t = some (.struct fs)) (h : Value.okWide P w r base t v) : ∃ cs, v = .agg cs := by
  unfold Value.okWide at h
  rw [ht] at h
  obtain ⟨cs, rfl, _⟩ := h
  exact ⟨cs, rfl⟩
theorem Opens.trod {α : Type} {P : Program} {t : TypeId} {d : Kd α} {ok : α → Prop} (h : Opens P t d ok) {H : Type} {enc : TypeId × Value → H} {w : World} {base : Nat} {spare : Nat → Bool} {held : Bool} {v : Value} {y : DataW H} {ps : List MemPlace} (hd : DataW.Trod enc P w base spare held t v y ps) : ∃ x, d.K w x v.cells.toList ∧ ok x := by
  obtain ⟨fuel, hf⟩ := hd
  exact h.2 H enc w base spare held fuel _ _ hf
end Go.Proofs.Ytmhdkjihhdljlaa
