/- What comes in, read as data, told by the kinds; with the statement's own bound on what comes in (no text, and no row, of more than 2^47 bytes). -/
import Derived.Test.YtbbgiedfkklojaaOpen
import Derived.SizedLaws
set_option linter.unusedVariables false
set_option linter.unusedSimpArgs false
namespace Go.Proofs.Ytbbgiedfkklojaa
open Go.RowKit Go.Proofs.YtbbgiedfkklojaaW.PrintWords

/-- Whatever can be read as data of type t, and is sized, is of the kind d, and ok. -/
def OpensW {α : Type} (P : Program) (t : TypeId) (d : Kd α) (ok : α → Prop) : Prop :=
  P.cellsOf t = d.sz ∧ ∀ (H : Type) (enc : TypeId × Value → H) (w : World) (base : Nat) (spare : Nat → Bool) (held : Bool) (fuel : Nat) (cs : List Value) (y : DataW H × List MemPlace), DataW.trod enc P w base spare held fuel t cs = some y → (∀ n ∈ y.1.weights P t, n ≤ reachBytes) → ∃ x, d.K w x cs ∧ ok x

section
variable {P : Program} {t e : TypeId}
theorem OpensW.bool (ht : P.underlying t = some .bool) (hc : P.cellsOf t = 1) : OpensW P t Kd.bool (fun _ => True) := ⟨hc, fun H enc w base spare held fuel cs y h _ => by
  obtain ⟨b, rfl, _⟩ := DataW.trod_bool ht h
  exact ⟨b, rfl, trivial⟩⟩
theorem OpensW.int {k : IntKind} (ht : P.underlying t = some (.int k)) (hc : P.cellsOf t = 1) : OpensW P t (Kd.int k) (fun x => (Lit.int k x).wf = true) := ⟨hc, fun H enc w base spare held fuel cs y h _ => by
  obtain ⟨b, rfl, _, hw⟩ := DataW.trod_int ht h
  exact ⟨b, rfl, hw⟩⟩
theorem OpensW.string (ht : P.underlying t = some .string) (hc : P.cellsOf t = 1) : OpensW P t Kd.string (fun s => s.size ≤ reachBytes) := ⟨hc, fun H enc w base spare held fuel cs y h hs => by
  obtain ⟨b, rfl, rfl, hw⟩ := DataW.trod_string ht h
  have h2 : b.data.toList.length ≤ reachBytes := hs _ (by unfold DataW.weights; exact List.mem_singleton.2 rfl)
  exact ⟨b, rfl, show b.size ≤ reachBytes from h2⟩⟩

theorem weights_all {H : Type} {l : List (DataW H)} {y : DataW H} (hy : y ∈ l) : ∀ n ∈ y.weights P e, n ∈ DataW.weightsAll P e l := by
  induction l with
  | nil => simp at hy
  | cons z r ih =>
    intro n hn
    simp only [DataW.weightsAll, List.mem_append]
    rcases List.mem_cons.1 hy with rfl | h
    · exact Or.inl hn
    · exact Or.inr (ih h n hn)

/-- A row that is read, elements of kind d. -/
theorem opens_rowW {α : Type} {d : Kd α} {ok : α → Prop} (hd : OpensW P e d ok) {H : Type} {enc : TypeId × Value → H} {w : World} {base n len : Nat} {a : Addr} {spare : Nat → Bool} {held : Bool} {elems : List (DataW H × List MemPlace)}
    (hl : elems.length = len) (he : ∀ i, i < len → (w.cells? base (a.add (i * P.cellsOf e)) (P.cellsOf e)).bind (DataW.trod enc P w base spare held n e) = elems[i]?) (hz : ∀ y ∈ elems, ∀ n ∈ y.1.weights P e, n ≤ reachBytes) :
    ∃ xs : List α, xs.length = len ∧ (∀ x ∈ xs, ok x) ∧ ∀ j p, xs[j]? = some p → ∃ c, c.length = d.sz ∧ d.K w p c ∧ ∀ i u, c[i]? = some u → w.cell? (a.add (j * d.sz + i)) = some u := by
  induction len generalizing elems with
  | zero => exact ⟨[], rfl, fun x hx => by simp at hx, fun j p hp => by simp at hp⟩
  | succ m ih =>
    obtain ⟨xs, h1, h2, h3⟩ := ih (elems := elems.take m) (by rw [List.length_take]; omega) (fun i hi => by rw [he i (by omega), List.getElem?_take, if_pos hi]) (fun y hy => hz y (List.mem_of_mem_take hy))
    have hm := he m (by omega)
    rw [List.getElem?_eq_getElem (by omega)] at hm
    obtain ⟨cs, hcs, htr⟩ := Option.bind_eq_some_iff.1 hm
    obtain ⟨x, hk, hok⟩ := hd.2 H enc w base spare held n cs _ htr (hz _ (List.getElem_mem _))
    obtain ⟨c1, c2⟩ := cells_get hcs
    refine ⟨xs ++ [x], by simp [h1], fun z hz => ?_, fun j p hp => ?_⟩
    · rcases List.mem_append.1 hz with hz | hz
      · exact h2 z hz
      · rw [List.mem_singleton.1 hz]; exact hok
    · rcases Nat.lt_or_ge j xs.length with hj | hj
      · rw [List.getElem?_append_left hj] at hp
        exact h3 j p hp
      · have hj' : j = xs.length := by
          have := (List.getElem?_eq_some_iff.1 hp).1
          rw [List.length_append, List.length_singleton] at this
          omega
        subst hj'
        have hp' : p = x := by simpa using hp.symm
        subst hp'
        refine ⟨cs, by rw [c1, hd.1], hk, fun i u hu => ?_⟩
        have := c2 i u hu
        have ha : (a.add (m * P.cellsOf e)).add i = a.add (xs.length * d.sz + i) := by
          rw [h1, hd.1]
          unfold Addr.add
          by_cases hz : m * d.sz = 0 <;> by_cases hi : i = 0 <;> simp [hz, hi, Nat.add_assoc]
        rw [← ha]
        exact this

theorem OpensW.slice {α : Type} {d : Kd α} {ok : α → Prop} (ht : P.underlying t = some (.slice e)) (hc : P.cellsOf t = 1) (hd : OpensW P e d ok) : OpensW P t (Kd.slice e d) (fun l => (l.length ≤ maxLen ∧ l.length * P.bytesOf e ≤ reachBytes) ∧ ∀ x ∈ l, ok x) := ⟨hc, fun H enc w base spare held fuel cs y h hs => by
  rcases DataW.trod_slice ht h with ⟨rfl, _⟩ | ⟨a, len, cap, elems, rest, n, rfl, rfl, rfl, hb, h1, h2, h3, h4, _⟩
  · exact ⟨[], ⟨none, 0, rfl, by simp, ⟨rfl, by simp, fun h => by simp at h⟩⟩, by simp, fun x hx => by simp at hx⟩
  · have hw : ∀ q, q ∈ ((elems.map (·.1)).length + (rest.map (·.1)).length) * P.bytesOf e :: (DataW.weightsAll P e (elems.map (·.1)) ++ DataW.weightsAll P e (rest.map (·.1))) → q ≤ reachBytes := by
      intro q hq
      apply hs q
      simp only [DataW.weights, ht]
      exact hq
    obtain ⟨xs, k1, k2, k3⟩ := opens_rowW hd h3 h4 (fun y hy n hn => hw n (List.mem_cons_of_mem _ (List.mem_append_left _ (weights_all (List.mem_map_of_mem hy) n hn))))
    subst k1
    have hsz := hw _ List.mem_cons_self
    refine ⟨xs, ⟨some a, cap, rfl, h1, ⟨rfl, by unfold maxLen at h2; omega, fun _ => ⟨a, rfl, k3⟩⟩⟩, ⟨by omega, Nat.le_trans (Nat.mul_le_mul_right _ ?_) hsz⟩, k2⟩
    simp only [List.length_map]
    omega⟩

theorem OpensW.array {α : Type} {n : Nat} {d : Kd α} {ok : α → Prop} (hs : 0 < d.sz) (ht : P.underlying t = some (.array n e)) (hc : P.cellsOf t = n * d.sz) (hd : OpensW P e d ok) : OpensW P t (Kd.arr n d hs) (fun l => ∀ x ∈ l, ok x) := ⟨hc, fun H enc w base spare held fuel cs y h hz => by
  obtain ⟨xs, m, rfl, rfl, hl, hn, he⟩ := DataW.trod_array ht h
  have hw : ∀ q, q ∈ DataW.weightsAll P e (xs.map (·.1)) → q ≤ reachBytes := by
    intro q hq
    apply hz q
    simp only [DataW.weights, ht]
    exact hq
  have key : ∀ k, k ≤ n → ∃ l : List α, l.length = k ∧ (∀ x ∈ l, ok x) ∧ ∀ j p, l[j]? = some p → d.K w p ((cs.drop (j * d.sz)).take d.sz) := by
    intro k
    induction k with
    | zero => exact fun _ => ⟨[], rfl, fun x hx => by simp at hx, fun j p hp => by simp at hp⟩
    | succ k ih =>
      intro hk
      obtain ⟨l, l1, l2, l3⟩ := ih (by omega)
      have := he k (by omega)
      rw [List.getElem?_eq_getElem (by omega)] at this
      obtain ⟨x, hx, hok⟩ := hd.2 H enc w base spare held m _ _ this (fun n hn => hw n (weights_all (List.mem_map_of_mem (List.getElem_mem _)) n hn))
      refine ⟨l ++ [x], by simp [l1], fun z hz => ?_, fun j p hp => ?_⟩
      · rcases List.mem_append.1 hz with hz | hz
        · exact l2 z hz
        · rw [List.mem_singleton.1 hz]; exact hok
      · rcases Nat.lt_or_ge j l.length with hj | hj
        · rw [List.getElem?_append_left hj] at hp
          exact l3 j p hp
        · have hj' : j = l.length := by
            have := (List.getElem?_eq_some_iff.1 hp).1
            rw [List.length_append, List.length_singleton] at this
            omega
          subst hj'
          have hp' : p = x := by simpa using hp.symm
          subst hp'
          rw [l1]
          rw [hd.1] at hx
          exact hx
  obtain ⟨l, l1, l2, l3⟩ := key n (Nat.le_refl _)
  exact ⟨l, ⟨l1, ⟨by rw [hl, hc, l1], l3⟩⟩, l2⟩⟩

/-- Fields, from a place on. -/
def OpensFsW {α : Type} (P : Program) (fs : List Field) (off : Nat) (d : Kd α) (ok : α → Prop) : Prop :=
  ∀ (H : Type) (enc : TypeId × Value → H) (w : World) (base : Nat) (spare : Nat → Bool) (held : Bool) (fuel : Nat) (cs : List Value) (ys : List (DataW H × List MemPlace)), (fs.mapM fun f => DataW.trod enc P w base spare held fuel f.type ((cs.drop f.offset).take (P.cellsOf f.type))) = some ys → (∀ n ∈ DataW.weightsEach P (fs.map (·.type)) (ys.map (·.1)), n ≤ reachBytes) → cs.length = off + d.sz → ∃ x, d.K w x (cs.drop off) ∧ ok x
theorem OpensFsW.last {α : Type} {d : Kd α} {ok : α → Prop} {f : Field} {off : Nat} (ho : f.offset = off) (hd : OpensW P f.type d ok) : OpensFsW P [f] off d ok := fun H enc w base spare held fuel cs ys h hz hl => by
  rw [List.mapM_cons] at h
  obtain ⟨y, hy, h2⟩ := Option.bind_eq_some_iff.1 h
  obtain ⟨ys', hys, h3⟩ := Option.bind_eq_some_iff.1 h2
  obtain rfl : y :: ys' = ys := Option.some.inj h3
  rw [ho, hd.1, List.take_of_length_le (by rw [List.length_drop]; omega)] at hy
  exact hd.2 H enc w base spare held fuel _ _ hy (fun n hn => hz n (by simp only [List.map_cons, DataW.weightsEach]; exact List.mem_append_left _ hn))
theorem OpensFsW.cons {α β : Type} {d : Kd α} {ok : α → Prop} {d' : Kd β} {ok' : β → Prop} {f : Field} {fs : List Field} {off : Nat} (ho : f.offset = off) (hd : OpensW P f.type d ok) (hr : OpensFsW P fs (off + d.sz) d' ok') : OpensFsW P (f :: fs) off (Kd.pair d d') (fun x => ok x.1 ∧ ok' x.2) := fun H enc w base spare held fuel cs ys h hz hl => by
  rw [List.mapM_cons] at h
  obtain ⟨y, hy, h2⟩ := Option.bind_eq_some_iff.1 h
  obtain ⟨ys', hys, h3⟩ := Option.bind_eq_some_iff.1 h2
  obtain rfl : y :: ys' = ys := Option.some.inj h3
  rw [ho, hd.1] at hy
  obtain ⟨x, hx, hok⟩ := hd.2 H enc w base spare held fuel _ _ hy (fun n hn => hz n (by simp only [List.map_cons, DataW.weightsEach]; exact List.mem_append_left _ hn))
  have hl' : cs.length = off + (d.sz + d'.sz) := hl
  obtain ⟨x', hx', hok'⟩ := hr H enc w base spare held fuel cs ys' hys (fun n hn => hz n (by simp only [List.map_cons, DataW.weightsEach]; exact List.mem_append_right _ hn)) (by omega)
  refine ⟨(x, x'), ⟨_, _, ?_, hx, hx'⟩, hok, hok'⟩
  rw [← List.drop_drop, List.take_append_drop]
theorem OpensW.struct {α : Type} {d : Kd α} {ok : α → Prop} {fs : Array Field} (ht : P.underlying t = some (.struct fs)) (hc : P.cellsOf t = d.sz) (hr : OpensFsW P fs.toList 0 d ok) : OpensW P t d ok := ⟨hc, fun H enc w base spare held fuel cs y h hz => by
  cases fuel with
  | zero => simp [DataW.trod] at h
  | succ m =>
    unfold DataW.trod at h
    rw [ht] at h
    split at h <;> simp_all
    obtain ⟨hl, a, hp, hd⟩ := h
    subst hd
    obtain ⟨x, h1, h2⟩ := hr H enc w base spare held m _ a hp (fun n hn => hz n (by simp only [DataW.weights, ht]; exact hn)) (by rw [hl, Nat.zero_add])
    exact ⟨x, by simpa using h1, h2⟩⟩
theorem OpensW.imp {α : Type} {d : Kd α} {ok ok' : α → Prop} (h : OpensW P t d ok) (hi : ∀ x, ok x → ok' x) : OpensW P t d ok' := ⟨h.1, fun H enc w base spare held fuel cs y hy hz => by
  obtain ⟨x, h1, h2⟩ := h.2 H enc w base spare held fuel cs y hy hz
  exact ⟨x, h1, hi x h2⟩⟩
end
theorem OpensW.trod {α : Type} {P : Program} {t : TypeId} {d : Kd α} {ok : α → Prop} (h : OpensW P t d ok) {H : Type} {enc : TypeId × Value → H} {w : World} {base : Nat} {spare : Nat → Bool} {held : Bool} {v : Value} {y : DataW H} {ps : List MemPlace} (hd : DataW.Trod enc P w base spare held t v y ps) {ts : List TypeId} {ds : List (DataW H)} (hz : (DataW.weightsEach P ts ds).all (· ≤ reachBytes) = true) {j : Nat} (hj : ts[j]? = some t) (hy : ds[j]? = some y) : ∃ x, d.K w x v.cells.toList ∧ ok x := by
  obtain ⟨fuel, hf⟩ := hd
  refine h.2 H enc w base spare held fuel _ _ hf (fun n hn => ?_)
  have := List.all_eq_true.1 hz n (DataW.weights_mem_each hj hy n hn)
  simpa using this
end Go.Proofs.Ytbbgiedfkklojaa
